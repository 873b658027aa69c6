/-
  The plain host among hosts:its method Call is found. (And what it stands on.)
-/
import Derived.Deep.RegionWith
import Derived.Test.YtkehdallfohjfaaGreatDoorEvC
import Derived.Test.YtkehdallfohjfaaGreatDoorMParseX
import Derived.Test.YtkehdallfohjfaaGreatDoorMRefNumB
import Derived.Test.YtkehdallfohjfaaGreatDoorShelf
import Derived.Test.YtkehdallfohjfaaGreatDoorMOwnLow
import Derived.Test.YtkehdallfohjfaaGreatDoorMPathPart
import Derived.Test.YtkehdallfohjfaaGreatDoorMSame11
namespace Go.Proofs.YtkehdallfohjfaaGreatDoor
open Go Go.RowKit
open Nat renaming lt_of_lt_of_le->nll
open Go.Lib renaming hid->Lq7
open And renaming intro->aIn
set_option maxRecDepth 100000
set_option maxHeartbeats 16000000
theorem Kt{B w W}(h:Below B w W){b}(hb:B<=b)(v0 v1 v2 v3 v4):Below B w (((((W.setCell ⟨b,0,none⟩ v0).setCell ⟨b,1,none⟩ v1).setCell ⟨b,2,none⟩ v2).setCell ⟨b,3,none⟩ v3).setCell ⟨b,4,none⟩ v4):=
 ((((h.setCell (p:=⟨b,0,none⟩) hb _).setCell (p:=⟨b,1,none⟩) hb _).setCell (p:=⟨b,2,none⟩) hb _).setCell (p:=⟨b,3,none⟩) hb _).setCell (p:=⟨b,4,none⟩) hb _
def PMade(v:Vl)(cs:List Value)(l k:Int)(w:World)(e:Ending)(w':World):Prop:=
 Below w.heap.size w w'/\e = .returned (if A7 v then .tuple #[.agg cs.toArray,Ai 0 0 0] else badV 6 l k)
theorem Ol(v)(hs:A4 v)(F cs l k w)(hF:∀b,F b->b<w.heap.size)(hc:Ay F w (valD v) cs):
  Calls Tryz.prog 226 #[.agg cs.toArray,.agg #[.int .i64 l,.int .i64 k]] w (PMade v cs l k w):=by
 obtain⟨vk,vn,vs,vl,vks⟩:=v;obtain⟨a1,c1,a2,c2,rfl,hr1,hr2⟩:=hc.val;have H0:=Lq7 (alloc4 w (.cells #[.int .i64 vk,.int .i64 vn,.string vs,.slice a1 vl.length c1,.slice a2 vks.length c2] 25) (.cells #[.int .i64 l,.int .i64 k] 32) (.cells #[.int .i64 0,.int .i64 0,.string ⟨#[]⟩,.slice none 0 0,.slice none 0 0] 25) (.cells #[.int .i64 0,.int .i64 0,.int .i64 0] 203));have aB:=Lq7 (Id (.mk vk vn vs vl vks) hs F a1 c1 a2 c2 _ (fun b hb=>nll (hF b hb) H0.out.2.2.2.2.1.size) (hr1.below H0.out.2.2.2.2.1) (hr2.below H0.out.2.2.2.2.1));unfold B7 at aB;unfold PMade;cases hck:A7 (.mk vk vn vs vl vks)
 ·rw[hck] at aB;go_enter Tryz.func226,Tryz.ntmps226;go_wp2_with fail;refine aB.out.mono ?_;rintro e w1 ⟨rfl,aA⟩
  go_upto_region 2 with fail
  have H1:=Lq7 (aIn (stays H0.out.2.1 aA) (aIn (stays H0.out.2.2.1 aA) (aIn (stays H0.out.2.2.2.1 aA) (H0.out.2.2.2.2.1.trans (aA.mono H0.out.2.2.2.2.1.size)))));refine A8 (.s 0 (.s 1 (.s 2 (.h 3 (.h 4 .nil))))) 99 (fun W'=>W'.heap[w.heap.size+1]? = some (.cells #[.int .i64 l,.int .i64 k] 32 (0,0))) H1.out.1 ?_;have aC:Below w1.heap.size w1 w1.drew:=(Below.refl _ w1).drew;have H2:=Lq7 (aIn (stays H1.out.1 aC) (aIn (stays H1.out.2.1 aC) (aIn (stays H1.out.2.2.1 aC) (H1.out.2.2.2.trans (aC.mono H1.out.2.2.2.size)))));generalize w1.drew=Wd at H2 |-;refine A6 zeroV (fun W' hS=>?_) ?_
  ·unfold zeroV;go_simp
  refine A2 (.agg #[.int .i64 l,.int .i64 k]) ?_;refine A6 (Ai 6 l k) (fun W' hS=>?_) ?_
  ·unfold Ai;go_simp
  unfold zeroV Ai;obtain⟨r0,r1,r2,r3,r4,r5,r6,r7,r8,r9,aD⟩:=Aa H2.out.2.1;refine Ac rfl (fun Kx hKx=>?_);go_wp2_with fail;have H3:Hid ((((((Wd.setCell ⟨w.heap.size+1+1,0,none⟩ (.int .i64 0)).setCell ⟨w.heap.size+1+1,1,none⟩ (.int .i64 0)).setCell ⟨w.heap.size+1+1,2,none⟩ (.string ⟨#[]⟩)).setCell ⟨w.heap.size+1+1,3,none⟩ (.slice none 0 0)).setCell ⟨w.heap.size+1+1,4,none⟩ (.slice none 0 0)).heap[w.heap.size+1]? = some (.cells #[.int .i64 l,.int .i64 k] 32 (0,0)) /\
    (((((Wd.setCell ⟨w.heap.size+1+1,0,none⟩ (.int .i64 0)).setCell ⟨w.heap.size+1+1,1,none⟩ (.int .i64 0)).setCell ⟨w.heap.size+1+1,2,none⟩ (.string ⟨#[]⟩)).setCell ⟨w.heap.size+1+1,3,none⟩ (.slice none 0 0)).setCell ⟨w.heap.size+1+1,4,none⟩ (.slice none 0 0)).heap[w.heap.size+1+1]? = some (.cells #[.int .i64 0,.int .i64 0,.string ⟨#[]⟩,.slice none 0 0,.slice none 0 0] 25 (0,0)) /\
    (((((Wd.setCell ⟨w.heap.size+1+1,0,none⟩ (.int .i64 0)).setCell ⟨w.heap.size+1+1,1,none⟩ (.int .i64 0)).setCell ⟨w.heap.size+1+1,2,none⟩ (.string ⟨#[]⟩)).setCell ⟨w.heap.size+1+1,3,none⟩ (.slice none 0 0)).setCell ⟨w.heap.size+1+1,4,none⟩ (.slice none 0 0)).heap[w.heap.size+1+1+1]? = some (.cells #[.int .i64 0,.int .i64 0,.int .i64 0] 203 (0,0)) /\
    Below w.heap.size w (((((Wd.setCell ⟨w.heap.size+1+1,0,none⟩ (.int .i64 0)).setCell ⟨w.heap.size+1+1,1,none⟩ (.int .i64 0)).setCell ⟨w.heap.size+1+1,2,none⟩ (.string ⟨#[]⟩)).setCell ⟨w.heap.size+1+1,3,none⟩ (.slice none 0 0)).setCell ⟨w.heap.size+1+1,4,none⟩ (.slice none 0 0))):=Lq7
   ⟨(Bu (by omega) _ _ _ _ _).trans H2.out.1,by rw[Al (Al (Al (Al (Al H2.out.2.1 0 _) 1 _) 2 _) 3 _) 4];rfl,(Bu (by omega) _ _ _ _ _).trans H2.out.2.2.1,
    Kt H2.out.2.2.2 (by omega) _ _ _ _ _⟩
  refine hKx _ _ (fun _=>H3.out.1) ?_;generalize World.setCell _ _ _=W3 at H3 |-;(try simp only[gX,Act.put]);obtain⟨d0,d1,d2,d3,d4,d5,d6⟩:=Aj H3.out.2.2.1;refine Ac rfl (fun Ky hKy=>?_);go_wp2_with fail;refine hKy _ _ (fun _=>((((Af (by omega) 2 _).trans (Af (by omega) 1 _)).trans (Af (by omega) 0 _)).trans H3.out.1)) ?_;refine Ao ?_;(try simp only[gX,Act.put]);obtain⟨r0,r1,r2,r3,r4,r5,r6,r7,r8,r9,aD⟩:=Aa H3.out.2.1;go_wp2_with fail;refine bodyPost_ret (v:=badV 6 l k) (by simp[badV,zeroV,Ai,results,Tryz.results226,go_sem,r1,r2,r3,r4,r5,d1,d2,d3]) rfl ?_;exact⟨((H3.out.2.2.2.setCell (p:=⟨w.heap.size+1+1+1,0,none⟩) (by show _<=w.heap.size+1+1+1;omega) _).setCell (p:=⟨w.heap.size+1+1+1,1,none⟩) (by show _<=w.heap.size+1+1+1;omega) _).setCell (p:=⟨w.heap.size+1+1+1,2,none⟩) (by show _<=w.heap.size+1+1+1;omega) _,rfl⟩
 ·rw[hck] at aB;go_enter Tryz.func226,Tryz.ntmps226;go_wp2_with fail;refine aB.out.mono ?_;rintro e w1 ⟨rfl,aA⟩;have H1:=Lq7 (aIn (stays H0.out.1 aA) (aIn (stays H0.out.2.2.1 aA) (aIn (stays H0.out.2.2.2.1 aA) (H0.out.2.2.2.2.1.trans (aA.mono H0.out.2.2.2.2.1.size)))));obtain⟨t0,t1,t2,t3,t4,t5,t6,t7,t8,t9,t10⟩:=Aa H1.out.1;obtain⟨r0,r1,r2,r3,r4,r5,r6,r7,r8,r9,aD⟩:=Aa H1.out.2.1;obtain⟨d0,d1,d2,d3,d4,d5,d6⟩:=Aj H1.out.2.2.1;go_wp2_with fail;refine bodyPost_ret (v:=.tuple #[.agg #[.int .i64 vk,.int .i64 vn,.string vs,.slice a1 vl.length c1,.slice a2 vks.length c2],Ai 0 0 0]) (by simp[Ai,results,Tryz.results226,go_sem,r1,r2,r3,r4,r5,d1,d2,d3]) rfl ?_;refine⟨?_,rfl⟩;exact((Kt H1.out.2.2.2 (by omega) _ _ _ _ _).setCell (p:=⟨w.heap.size+1+1+1,0,none⟩) (by show _<=w.heap.size+1+1+1;omega) _).setCell (p:=⟨w.heap.size+1+1+1,1,none⟩) (by show _<=w.heap.size+1+1+1;omega) _ |>.setCell (p:=⟨w.heap.size+1+1+1,2,none⟩) (by show _<=w.heap.size+1+1+1;omega) _
theorem Om(s v)(h:F3 s=some v)(w)(hT:Ea w):
  Calls Tryz.prog 225 #[.string s] w (fun e w'=>e = .returned (.tuple #[.int .i64 v,.bool true])/\Below w.heap.size w w'):=by
 have hp:Lib.parseIntB 64 s.data.toList = .ok v/\inR v=true/\s.size<=65536/\Lib.itoa v=s.data.toList:=by
  unfold F3 at h;split at h
  ·rename_i v' hv'
   split at h
   ·rename_i hc
    cases h;exact⟨hv',hc⟩
   ·cases h
  ·cases h
 obtain⟨h1,h2,h4,h5⟩:=hp;have Hp:=Lq7 (Tryz.strconv_ParseInt_10_at64_ok s (by omega) v h1 w);have Hn:=Lq7 (fun(w1:World) (hT1:Ea w1)=>Rc v h2 w1 hT1);have H5:=Lq7 h5;have HT:=Lq7 hT;clear h h1 h5 h2 hT;go_enter Tryz.func225,Tryz.ntmps225;go_wp2_with fail;refine Hp.out.mono ?_;rintro e w1 ⟨rfl,aB⟩;have aC:Below w.heap.size w w1:=by
  rcases aB with rfl|⟨t,rfl⟩
  ·exact Below.refl _ _
  ·exact F5 w _ t
 clear aB;have aA:=Lq7 aC;clear aC;go_wp2_with fail;refine(Hn.out _ (HT.out.below aA.out)).mono ?_;rintro e w2 ⟨o,rfl,ho,aD⟩;obtain rfl:o=s:=bytes_ext (ho.trans H5.out);have hne:(o.toList != o.toList)=false:=(by simp);have Hb2:=Lq7 (aA.out.trans (aD.mono aA.out.size));clear ho aD;go_wp2_with fail
 go_ret2
 exact⟨rfl,Hb2.out⟩
mutual
def Dn:Nd->Prop
 | .mk _ t _ _ l=>t.size<=maxLen/\l.length<=1000000/\smallNs l
def smallNs:List Nd->Prop
 | []=>True
 | v::t=>Dn v/\smallNs t
end
theorem Fv:∀{l:List Nd} {x:Nd},smallNs l->x∈l->Dn x
 | _::_,_,h,.head _=>h.1
 | _::_,_,h,.tail _ hm=>Fv h.2 hm
theorem smallN_zero:Dn ndZero:=by
 unfold ndZero;rw[Dn];exact⟨Nat.zero_le _,by simp,by rw[smallNs];trivial⟩
theorem Ps{n}(h:Dn n)(i):Dn (Ff n i):=by
 obtain⟨k,t,l,c,kids⟩:=n;rw[Dn] at h;unfold Ff;show Dn ((kids[i]?).getD ndZero);cases hk:kids[i]? with
 | none=>exact smallN_zero
 | some x=>exact Fv h.2.2 (List.mem_of_getElem? hk)
def GOk(G:Nat->Prop)(c:Ctx)(w:World):Prop:=∀b,G b->b<w.heap.size/\¬c.M b
theorem GOk.mv{G c c' w w'}(h:GOk G c w)(k:Mv c w c' w'):GOk G c' w':=
 fun b hb=>⟨nll (h b hb).1 k.size,fun hm=>by rcases k.m b hm with h1|h1;exact(h b hb).2 h1;have:=(h b hb).1;omega⟩
theorem Ag.gmv{G c c' w w' a l}(h:Ag G w a l)(hG:GOk G c w)(k:Mv c w c' w'):Ag G w' a l:=
 h.mono fun b hb hl=>⟨hb,nll hl k.size,k.block b hl (hG b hb).2⟩
structure XB(c0:Ctx)(w:World)(c:Ctx)(W:World)(n v f:Array Value):Prop where
 mv:Mv c0 w c W
 size:w.heap.size+3<=W.heap.size
 na:W.heap[w.heap.size]? = some (.cells n 43 (0,0))
 vb:W.heap[w.heap.size+1]? = some (.cells v 25 (0,0))
 fc:W.heap[w.heap.size+1+1]? = some (.cells f 203 (0,0))
 out:∀b,w.heap.size<=b->b<w.heap.size+3->¬c.M b/\¬c.F b
section
variable {c0 c c':Ctx} {w W W':World} {n v f:Array Value}
theorem XB.start(h:c0.Ok w)(n v f:Array Value):XB c0 w c0 (((w.alloc (.cells n 43)).alloc (.cells v 25)).alloc (.cells f 203)) n v f:=by
 obtain⟨h1,h2,h3,h4,h5⟩:=Dm w (.cells n 43) (.cells v 25) (.cells f 203);exact⟨.of_below c0 h4,by omega,h1,h2,h3,fun b hb _=>⟨fun hm=>by have:=h.ml b hm;omega,fun hm=>by have:=h.fl b hm;omega⟩⟩
theorem XB.later(h:XB c0 w c W n v f)(k:Mv c W c' W'):XB c0 w c' W' n v f:=by
 have hs:=h.size;have hk:∀b,w.heap.size<=b->b<w.heap.size+3->W'.heap[b]? = W.heap[b]?:=fun b h1 h2=>k.block b (by omega) (h.out b h1 h2).1;refine⟨h.mv.trans k,Nat.le_trans hs k.size,(hk _ (by omega) (by omega)).trans h.na,(hk _ (by omega) (by omega)).trans h.vb,(hk _ (by omega) (by omega)).trans h.fc,fun b h1 h2=>⟨fun hm=>?_,fun hm=>?_⟩⟩
 ·rcases k.m b hm with h3|h3
  ·exact(h.out b h1 h2).1 h3
  ·omega
 ·rcases k.f b hm with h3|h3
  ·exact(h.out b h1 h2).2 h3
  ·omega
theorem XB.below(h:XB c0 w c W n v f)(k:Below W.heap.size W W'):XB c0 w c W' n v f:=h.later (.of_below c k)
def Dq(W:World)(b:Nat)(v0 v1 v2 v3 v4:Value):World:=((((W.setCell ⟨b,0,none⟩ v0).setCell ⟨b,1,none⟩ v1).setCell ⟨b,2,none⟩ v2).setCell ⟨b,3,none⟩ v3).setCell ⟨b,4,none⟩ v4
def Cb(W:World)(b:Nat)(v0 v1 v2:Value):World:=((W.setCell ⟨b,0,none⟩ v0).setCell ⟨b,1,none⟩ v1).setCell ⟨b,2,none⟩ v2
theorem XB.setV{x0 x1 x2 x3 x4:Value}(h:XB c0 w c W n #[x0,x1,x2,x3,x4] f)(v0 v1 v2 v3 v4:Value):XB c0 w c (Dq W (w.heap.size+1) v0 v1 v2 v3 v4) n #[v0,v1,v2,v3,v4] f:=by
 unfold Dq;refine⟨((((h.mv.set (.inl (Nat.le_succ _)) 0 _).set (.inl (Nat.le_succ _)) 1 _).set (.inl (Nat.le_succ _)) 2 _).set (.inl (Nat.le_succ _)) 3 _).set (.inl (Nat.le_succ _)) 4 _,by simpa using h.size,(Bu (by omega) _ _ _ _ _).trans h.na,?_,(Bu (by omega) _ _ _ _ _).trans h.fc,h.out⟩;rw[Al (Al (Al (Al (Al h.vb 0 v0) 1 v1) 2 v2) 3 v3) 4 v4];rfl
theorem XB.setF{x0 x1 x2:Value}(h:XB c0 w c W n v #[x0,x1,x2])(v0 v1 v2:Value):XB c0 w c (Cb W (w.heap.size+1+1) v0 v1 v2) n v #[v0,v1,v2]:=by
 unfold Cb;refine⟨((h.mv.set (.inl (by omega)) 0 _).set (.inl (by omega)) 1 _).set (.inl (by omega)) 2 _,by simpa using h.size,by rw[Af (by omega),Af (by omega),Af (by omega)];exact h.na,by rw[Af (by omega),Af (by omega),Af (by omega)];exact h.vb,?_,h.out⟩;rw[Al (Al (Al h.fc 0 v0) 1 v1) 2 v2];rfl
theorem XB.msV{mp mb:Nat}{hv:Fl}{st:St}(h:XB c0 w c W n v f)(hm:MS c W mp mb hv st)(v0 v1 v2 v3 v4:Value):MS c (Dq W (w.heap.size+1) v0 v1 v2 v3 v4) mp mb hv st:=
 hm.other (by unfold Dq;simp) (fun b _ aB=>Bu (fun e=>by subst e;have:=h.out (w.heap.size+1) (by omega) (by omega);rcases aB with h1|h1;exact this.1 h1;exact this.2 h1) _ _ _ _ _)
theorem XB.msF{mp mb:Nat}{hv:Fl}{st:St}(h:XB c0 w c W n v f)(hm:MS c W mp mb hv st)(v0 v1 v2:Value):MS c (Cb W (w.heap.size+1+1) v0 v1 v2) mp mb hv st:=
 hm.other (by unfold Cb;simp) (fun b _ aB=>by
  have aA:b≠w.heap.size+1+1:=fun e=>(by subst e;have:=h.out (w.heap.size+1+1) (by omega) (by omega);rcases aB with h1|h1;exact this.1 h1;exact this.2 h1);unfold Cb;rw[Af aA,Af aA,Af aA])
theorem XB.aggV(h:XB c0 w c W n v f){ds:List Dat}{cs:List Value}(ha:Ay c.F W ds cs)(v0 v1 v2 v3 v4:Value):Ay c.F (Dq W (w.heap.size+1) v0 v1 v2 v3 v4) ds cs:=
 ha.mono fun b hF hl=>⟨hF,by unfold Dq;simpa using hl,Bu (fun e=>by subst e;exact(h.out (w.heap.size+1) (by omega) (by omega)).2 hF) _ _ _ _ _⟩
theorem XB.aggF(h:XB c0 w c W n v f){ds:List Dat}{cs:List Value}(ha:Ay c.F W ds cs)(v0 v1 v2:Value):Ay c.F (Cb W (w.heap.size+1+1) v0 v1 v2) ds cs:=
 ha.mono fun b hF hl=>⟨hF,by unfold Cb;simpa using hl,by
  have aA:b≠w.heap.size+1+1:=fun e=>(by subst e;exact(h.out (w.heap.size+1+1) (by omega) (by omega)).2 hF);unfold Cb;rw[Af aA,Af aA,Af aA]⟩
end
def Jy(f mp mb:Nat)(hv:Fl)(ex:Nd->EM Vl):Prop:=∀(G:Nat->Prop) (c:Ctx) (w:World) (st:St) (n:Nd) (v:Value),MS c w mp mb hv st->GOk G c w->A0 G w n v->Dn n->ex n st ≠ .out ->
 Calls Tryz.prog f #[ptr mp,v] w (EP mp mb hv EVal badV c (ex n st) w)
end Go.Proofs.YtkehdallfohjfaaGreatDoor
namespace Go.Proofs.YtkehdallfohjfaaGreatDoor
open Go Go.RowKit Go.Maps Go.WideMaps
open List renaming getElem?_eq_getElem->lgE,mem_of_getElem? -> lgM,getElem?_map->lgP,getElem?_eq_some_iff->lgS
open Nat renaming le_refl->nlr
open Go.Lib renaming hid->Lq7,toList_data->Lq8
open Go.Act renaming put->aP
open Go.RowKit.Below renaming refl->bRf
open Go.World renaming setCell->wsC
set_option maxRecDepth 100000
set_option maxHeartbeats 16000000
theorem MS.look_all{c w mp mb hv st}(h:MS c w mp mb hv st)(s)(hs:s.size<=maxLen):
  (Ej st.names s=none/\∀W',W'.heap[mb]? = w.heap[mb]? -> (Instr.lookup 199 (.map (some mb)) (.string s) true).run Tryz.prog W' = .ok (.tuple #[zeroV,.bool false]) W') \/
   ∃v cs,Ej st.names s=some v/\Ay c.F w (valD v) cs/\A7 v=true/\∀W',W'.heap[mb]? = w.heap[mb]? -> (Instr.lookup 199 (.map (some mb)) (.string s) true).run Tryz.prog W' = .ok (.tuple #[.agg cs.toArray,.bool true]) W':=by
 obtain⟨m,h1,h2⟩:=h.names;have hk:=Je h2 (fun q hq=>(h.few q hq).2);have look:=fun(W:World) (hW:W.heap[mb]? = w.heap[mb]?)=>(h1.of_block hW).look true (string_keyed Tryz.underlying9) Tryz.underlying199 (zeroValueV W) hk (keyOf_string_mk Tryz.underlying9 hs);by_cases hf:∃(j:Nat) (v:Value),m[j]? = some (.string s,v)
 ·obtain⟨j,v,h3⟩:=hf;have aZ:=(lgS.1 h3).1;have hn:st.names[j]? = some (st.names[j]'(by rw[<-h2.1];exact aZ)):=lgE _;obtain⟨h5,cs,h6,h7⟩:=h2.2 j _ _ h3 hn;have hs':s=(st.names[j]'(by rw[<-h2.1];exact aZ)).1:=(by injection h5);have h6':v = .agg cs.toArray:=h6;refine .inr ⟨(st.names[j]'(by rw[<-h2.1];exact aZ)).2,cs,Gp h.uniq (j:=j) (by rw[hn,hs']),h7,(h.few _ (lgM hn)).1,fun W' hW=>?_⟩;rcases look W' hW with⟨h8,-⟩|⟨j',v',h8,h9⟩
  ·exact absurd rfl (h8 _ (lgM h3))
  ·have hj':=(lgS.1 h8).1;have hn':st.names[j']? = some (st.names[j']'(by rw[<-h2.1];exact hj')):=lgE _;obtain⟨h10,-⟩:=h2.2 j' _ _ h8 hn';have hs2:s=(st.names[j']'(by rw[<-h2.1];exact hj')).1:=(by injection h10);have hjj:j=j':=(List.getElem?_inj (by rw[List.length_map,<-h2.1];exact aZ) h.uniq).1 (by rw[lgP,lgP,hn,hn'];simp[<-hs',<-hs2]);subst hjj;rw[h3] at h8;cases h8;rw[h9,h6'];rfl
 ·refine .inl ⟨Pr fun q hq e=>?_,fun W' hW=>?_⟩
  ·obtain⟨j,hj⟩:=List.getElem?_of_mem hq;have aZ:=(lgS.1 hj).1;have hm:m[j]? = some (m[j]'(by rw[h2.1];exact aZ)):=lgE _;obtain⟨h5,-⟩:=h2.2 j _ q hm hj;exact hf ⟨j,(m[j]'(by rw[h2.1];exact aZ)).2,by rw[hm,<-e,<-h5]⟩
  ·rcases look W' hW with⟨-,h9⟩|⟨j',v',h8,-⟩
   ·exact h9
   ·exact absurd ⟨j',v',h8⟩ hf
theorem Pt(x)(hx:inR x=true):A7 (.mk 2 x ⟨#[]⟩ [] [])=true:=by
 have h:(⟨#[]⟩:ByteArray).toList.isEmpty=true:=(by rw[Lq8];rfl);simp[A7,mayV,B4,Bf,hx]
theorem On{s v}(h:Cr s=some v):A7 v=true:=by
 have h0:(⟨#[]⟩:ByteArray).toList.isEmpty=true:=(by rw[Lq8];rfl);unfold Cr at h;split at h
 ·cases h;simp[A7,mayV,B4,Bf]
 ·split at h
  ·cases h;simp[A7,mayV,B4,Bf]
  ·split at h
   ·cases h;simp[vZero,A7,mayV,B4,Bf]
   ·cases h
theorem expr_num(mp mb hv G c w st t l k kids a cap)(hm:MS c w mp mb hv st)(hG:GOk G c w)(hr:Ag G w a (Az kids))(hle:¬st.left<=0)(x)(hx:F3 t=some x):
  Calls Tryz.prog 206 #[ptr mp,.agg #[.int .i64 10,.string t,.int .i64 l,.int .i64 k,.slice a kids.length cap]] w (EP mp mb hv EVal badV c (.ok (.mk 2 x ⟨#[]⟩ [] []) { st with left:=st.left - 1}) w):=by
 have H0:=Lq7 (XB.start hm.ok #[.int .i64 10,.string t,.int .i64 l,.int .i64 k,.slice a kids.length cap] #[.int .i64 0,.int .i64 0,.string ⟨#[]⟩,.slice none 0 0,.slice none 0 0] #[.int .i64 0,.int .i64 0,.int .i64 0]);have Hx:=Lq7 hx;have aA:=Lq7 (Eb c mp mb hv st l k _ (hm.below (Dm w (.cells #[.int .i64 10,.string t,.int .i64 l,.int .i64 k,.slice a kids.length cap] 43) (.cells #[.int .i64 0,.int .i64 0,.string ⟨#[]⟩,.slice none 0 0,.slice none 0 0] 25) (.cells #[.int .i64 0,.int .i64 0,.int .i64 0] 203)).2.2.2.1));rw[show Da l k st = .ok () { st with left:=st.left - 1} from if_neg hle] at aA;have HG:=Lq7 hG;have Hr:=Lq7 hr;unfold ptr at aA |-;go_enter Tryz.func206,Tryz.ntmps206;go_wp2_with fail;refine aA.out.mono ?_;rintro e w1 ⟨c1,aB,aI,v1,rfl,aN⟩;obtain rfl:v1=Ai 0 0 0:=aN;have bD:=Lq7 (HG.out.mv (H0.out.mv.trans aB));have bE:=Lq7 (Hr.out.gmv HG.out (H0.out.mv.trans aB));have H1:=Lq7 (H0.out.later aB);have aJ:=Lq7 aI;unfold Ai;obtain⟨r0,r1,r2,r3,r4,r5,r6,r7,r8,r9,bF⟩:=Aa H1.out.na;go_wp2_with fail;have HT1:=Lq7 aJ.out.std.1;refine(Om t x Hx.out _ ?_).mono ?_
 ·exact HT1.out.below ((bRf _ w1).alloc (nlr _) _)
 rintro e w2 ⟨rfl,aQ⟩;have aW:Below w1.heap.size w1 w2:=((bRf _ w1).alloc (nlr _) _).trans (aQ.mono (by simp));have H2:=Lq7 (H1.out.below aW);have aY:=Lq7 (aJ.out.below aW);obtain⟨s0,s1,s2,s3,s4,s5,s6,s7,s8,s9,aM⟩:=Aa H2.out.vb;obtain⟨d0,d1,d2,d3,d4,d5,d6⟩:=Aj H2.out.fc;go_wp2_with fail;refine bodyPost_ret (v:=.tuple #[.agg #[.int .i64 2,.int .i64 x,.string ⟨#[]⟩,.slice none 0 0,.slice none 0 0],Ai 0 0 0]) (by simp[Ai,results,Tryz.results206,go_sem,s1,s2,s3,s4,s5,d1,d2,d3]) rfl ?_;have H3:=H2.out.setV (.int .i64 2) (.int .i64 x) (.string ⟨#[]⟩) (.slice none 0 0) (.slice none 0 0);have aV:=H2.out.msV aY.out (.int .i64 2) (.int .i64 x) (.string ⟨#[]⟩) (.slice none 0 0) (.slice none 0 0);exact⟨c1,(H3.setF (.int .i64 0) (.int .i64 0) (.int .i64 0)).mv,H3.msF aV (.int .i64 0) (.int .i64 0) (.int .i64 0),_,rfl,[_,_,_,_,_],rfl,Ay.val_mk (l:=[]) (ks:=[]) _ _ _ _ _ (Ag.nil _) (Ag.nil _),Pt x (numOf_in Hx.out)⟩
theorem Rq(kk:Int)(mp mb:Nat)(hv:Fl)(G:Nat->Prop)(c:Ctx)(w:World)(st:St)(t:ByteArray)(l k:Int)(kids:List Nd)(a:Option Addr)(cap:Nat)(hm:MS c w mp mb hv st)(_hG:GOk G c w)(hle:st.left<=0):
  Calls Tryz.prog 206 #[ptr mp,.agg #[.int .i64 kk,.string t,.int .i64 l,.int .i64 k,.slice a kids.length cap]] w (EP mp mb hv EVal badV c (.err 12 l k) w):=by
 have H0:=Lq7 (XB.start hm.ok #[.int .i64 kk,.string t,.int .i64 l,.int .i64 k,.slice a kids.length cap] #[.int .i64 0,.int .i64 0,.string ⟨#[]⟩,.slice none 0 0,.slice none 0 0] #[.int .i64 0,.int .i64 0,.int .i64 0]);have aA:=Lq7 (Eb c mp mb hv st l k _ (hm.below (Dm w (.cells #[.int .i64 kk,.string t,.int .i64 l,.int .i64 k,.slice a kids.length cap] 43) (.cells #[.int .i64 0,.int .i64 0,.string ⟨#[]⟩,.slice none 0 0,.slice none 0 0] 25) (.cells #[.int .i64 0,.int .i64 0,.int .i64 0] 203)).2.2.2.1));rw[show Da l k st = .err 12 l k from if_pos hle] at aA;unfold ptr at aA |-;go_enter Tryz.func206,Tryz.ntmps206;go_wp2_with fail;refine aA.out.mono ?_;rintro e w1 ⟨c1,aB,rfl⟩;have H1:=Lq7 (H0.out.later aB);unfold Ai
 go_upto_region 3 with fail
 have aD:Below w1.heap.size w1 (w1.alloc (.cells #[.int .i64 12,.int .i64 l,.int .i64 k] 203)):=(bRf _ w1).alloc (nlr _) _;have Hf:=Lq7 (heap_alloc_new w1 (.cells #[.int .i64 12,.int .i64 l,.int .i64 k] 203));have H2:=Lq7 (H1.out.below aD);have hsz:=H1.out.size;generalize World.alloc _ _=W at H2 Hf |-;generalize w1.heap.size=fb at Hf hsz |-;refine A8 (.s 0 (.s 1 (.h 2 (.h 3 .nil)))) 99 (fun W'=>W'.heap[fb]? = some (.cells #[.int .i64 12,.int .i64 l,.int .i64 k] 203 (0,0))) Hf.out ?_;have H5:=Lq7 (H2.out.below ((bRf _ W).drew));have bP:Hid (W.drew.heap[fb]? = some (.cells #[.int .i64 12,.int .i64 l,.int .i64 k] 203 (0,0))):=Lq7 Hf.out;generalize W.drew=Wd at H5 bP |-;refine Ah (.agg #[.int .i64 0,.int .i64 0,.string ⟨#[]⟩,.slice none 0 0,.slice none 0 0]) ?_;refine A2 (.agg #[.int .i64 12,.int .i64 l,.int .i64 k]) ?_;obtain⟨s0,s1,s2,s3,s4,s5,s6,s7,s8,s9,aM⟩:=Aa H5.out.vb;refine Ac rfl (fun Kx aR=>?_);go_wp2_with fail;have H6:=Lq7 (H5.out.setV (.int .i64 0) (.int .i64 0) (.string ⟨#[]⟩) (.slice none 0 0) (.slice none 0 0));have bI:=Lq7 ((Bu (W:=Wd) (b:=w.heap.size+1) (k:=fb) (by omega) (.int .i64 0) (.int .i64 0) (.string ⟨#[]⟩) (.slice none 0 0) (.slice none 0 0)).trans bP.out);unfold Dq at H6;refine aR _ _ (fun _=>bI.out) ?_;generalize wsC _ _ _=W6 at H6 bI |-;(try simp only[gX,aP]);obtain⟨d0,d1,d2,d3,d4,d5,d6⟩:=Aj H6.out.fc;refine Ac rfl (fun Ky aS=>?_);go_wp2_with fail;have H7:=Lq7 (H6.out.setF (.int .i64 12) (.int .i64 l) (.int .i64 k));unfold Cb at H7;refine aS _ _ (fun _=>((((Af (by omega) 2 _).trans (Af (by omega) 1 _)).trans (Af (by omega) 0 _)).trans bI.out)) ?_;generalize wsC _ _ _=W7 at H7 |-;refine Ao ?_;(try simp only[gX,aP]);obtain⟨s0,s1,s2,s3,s4,s5,s6,s7,s8,s9,aM⟩:=Aa H7.out.vb;obtain⟨d0,d1,d2,d3,d4,d5,d6⟩:=Aj H7.out.fc;go_wp2_with fail;refine bodyPost_ret (v:=badV 12 l k) (by simp[badV,zeroV,Ai,results,Tryz.results206,go_sem,s1,s2,s3,s4,s5,d1,d2,d3]) rfl ?_;exact⟨_,H7.out.mv,rfl⟩
theorem Rr(mp mb:Nat)(hv:Fl)(G:Nat->Prop)(c:Ctx)(w:World)(st:St)(t:ByteArray)(l k:Int)(kids:List Nd)(a:Option Addr)(cap:Nat)(hm:MS c w mp mb hv st)(hG:GOk G c w)(hr:Ag G w a (Az kids))(hle:¬st.left<=0)(hsn:Dn (.mk 12 t l k kids))(ex:Nd->EM Vl)(hl:Jy 228 mp mb hv ex)(hne:ex (.mk 12 t l k kids) { st with left:=st.left - 1} ≠ .out):
  Calls Tryz.prog 206 #[ptr mp,.agg #[.int .i64 12,.string t,.int .i64 l,.int .i64 k,.slice a kids.length cap]] w (EP mp mb hv EVal badV c (ex (.mk 12 t l k kids) { st with left:=st.left - 1}) w):=by
 have H0:=Lq7 (XB.start hm.ok #[.int .i64 12,.string t,.int .i64 l,.int .i64 k,.slice a kids.length cap] #[.int .i64 0,.int .i64 0,.string ⟨#[]⟩,.slice none 0 0,.slice none 0 0] #[.int .i64 0,.int .i64 0,.int .i64 0]);have Hl:=Lq7 hl;have Hsn:=Lq7 hsn;have bQ:=Lq7 hne;have aA:=Lq7 (Eb c mp mb hv st l k _ (hm.below (Dm w (.cells #[.int .i64 12,.string t,.int .i64 l,.int .i64 k,.slice a kids.length cap] 43) (.cells #[.int .i64 0,.int .i64 0,.string ⟨#[]⟩,.slice none 0 0,.slice none 0 0] 25) (.cells #[.int .i64 0,.int .i64 0,.int .i64 0] 203)).2.2.2.1));rw[show Da l k st = .ok () { st with left:=st.left - 1} from if_neg hle] at aA;have HG:=Lq7 hG;have Hr:=Lq7 hr;unfold ptr at aA |-;go_enter Tryz.func206,Tryz.ntmps206;go_wp2_with fail;refine aA.out.mono ?_;rintro e w1 ⟨c1,aB,aI,v1,rfl,aN⟩;obtain rfl:v1=Ai 0 0 0:=aN;have bD:=Lq7 (HG.out.mv (H0.out.mv.trans aB));have bE:=Lq7 (Hr.out.gmv HG.out (H0.out.mv.trans aB));have H1:=Lq7 (H0.out.later aB);have aJ:=Lq7 aI;unfold Ai;obtain⟨r0,r1,r2,r3,r4,r5,r6,r7,r8,r9,bF⟩:=Aa H1.out.na;have aD:Below w1.heap.size w1 (w1.alloc (.cells #[.int .i64 0,.int .i64 0,.int .i64 0] 203)):=(bRf _ w1).alloc (nlr _) _;have Hc:=Lq7 (Hl.out G c1 _ { st with left:=st.left - 1} (.mk 12 t l k kids) _ (aJ.out.below aD) (bD.out.mv (.of_below c1 aD)) (A0.mk _ _ _ _ cap (bE.out.below aD)) Hsn.out bQ.out);have H2:=Lq7 (H1.out.below aD);unfold ptr at Hc;go_wp2_with fail;refine Hc.out.mono ?_;rintro e w2 ⟨c2,aB,hq⟩;have H3:=Lq7 (H2.out.later aB);obtain⟨s0,s1,s2,s3,s4,s5,s6,s7,s8,s9,aM⟩:=Aa H3.out.vb;obtain⟨d0,d1,d2,d3,d4,d5,d6⟩:=Aj H3.out.fc;cases hx:ex (.mk 12 t l k kids) { st with left:=st.left - 1} with
 | out=>exact absurd hx bQ.out
 | err x y z=>
  rw[hx] at hq;obtain rfl:=hq;unfold badV zeroV Ai;have bA:=Lq7 hx;go_wp2_with fail;refine bodyPost_ret (v:=badV x y z) (by simp[badV,zeroV,Ai,results,Tryz.results206,go_sem,s1,s2,s3,s4,s5,d1,d2,d3]) rfl ?_;rw[bA.out];exact⟨c2,((H3.out.setV (.int .i64 0) (.int .i64 0) (.string ⟨#[]⟩) (.slice none 0 0) (.slice none 0 0)).setF (.int .i64 x) (.int .i64 y) (.int .i64 z)).mv,rfl⟩
 | ok x st2=>
  rw[hx] at hq;obtain⟨bJ,v2,rfl,cs,rfl,aU,bL⟩:=hq;obtain⟨xk,xn,xs,xl,xks⟩:=x;obtain⟨b1,e1,b2,e2,rfl,hr1,hr2⟩:=aU.val;have aV:=Lq7 bJ;have bB:=Lq7 aU;have bM:=Lq7 bL;unfold Ai;have bA:=Lq7 hx;go_wp2_with fail;refine bodyPost_ret (v:=.tuple #[.agg #[.int .i64 xk,.int .i64 xn,.string xs,.slice b1 xl.length e1,.slice b2 xks.length e2],Ai 0 0 0]) (by simp[Ai,results,Tryz.results206,go_sem,s1,s2,s3,s4,s5,d1,d2,d3]) rfl ?_;have H4:=H3.out.setV (.int .i64 xk) (.int .i64 xn) (.string xs) (.slice b1 xl.length e1) (.slice b2 xks.length e2);have aH:=H3.out.msV aV.out (.int .i64 xk) (.int .i64 xn) (.string xs) (.slice b1 xl.length e1) (.slice b2 xks.length e2);have bN:=H3.out.aggV bB.out (.int .i64 xk) (.int .i64 xn) (.string xs) (.slice b1 xl.length e1) (.slice b2 xks.length e2);rw[bA.out];exact⟨c2,(H4.setF (.int .i64 0) (.int .i64 0) (.int .i64 0)).mv,H4.msF aH (.int .i64 0) (.int .i64 0) (.int .i64 0),_,rfl,[_,_,_,_,_],rfl,H4.aggF bN (.int .i64 0) (.int .i64 0) (.int .i64 0),bM.out⟩
theorem Pv(mp mb hv G c w st t l k kids a cap)(hm:MS c w mp mb hv st)(hG:GOk G c w)(hr:Ag G w a (Az kids))(hle:¬st.left<=0)(x)(hx:Cr t=some x):
  Calls Tryz.prog 206 #[ptr mp,.agg #[.int .i64 9,.string t,.int .i64 l,.int .i64 k,.slice a kids.length cap]] w (EP mp mb hv EVal badV c (.ok x { st with left:=st.left - 1}) w):=by
 have H0:=Lq7 (XB.start hm.ok #[.int .i64 9,.string t,.int .i64 l,.int .i64 k,.slice a kids.length cap] #[.int .i64 0,.int .i64 0,.string ⟨#[]⟩,.slice none 0 0,.slice none 0 0] #[.int .i64 0,.int .i64 0,.int .i64 0]);have Hx:=Lq7 hx;have aA:=Lq7 (Eb c mp mb hv st l k _ (hm.below (Dm w (.cells #[.int .i64 9,.string t,.int .i64 l,.int .i64 k,.slice a kids.length cap] 43) (.cells #[.int .i64 0,.int .i64 0,.string ⟨#[]⟩,.slice none 0 0,.slice none 0 0] 25) (.cells #[.int .i64 0,.int .i64 0,.int .i64 0] 203)).2.2.2.1));rw[show Da l k st = .ok () { st with left:=st.left - 1} from if_neg hle] at aA;have HG:=Lq7 hG;have Hr:=Lq7 hr;unfold ptr at aA |-;go_enter Tryz.func206,Tryz.ntmps206;go_wp2_with fail;refine aA.out.mono ?_;rintro e w1 ⟨c1,aB,aI,v1,rfl,aN⟩;obtain rfl:v1=Ai 0 0 0:=aN;have bD:=Lq7 (HG.out.mv (H0.out.mv.trans aB));have bE:=Lq7 (Hr.out.gmv HG.out (H0.out.mv.trans aB));have H1:=Lq7 (H0.out.later aB);have aJ:=Lq7 aI;unfold Ai;obtain⟨r0,r1,r2,r3,r4,r5,r6,r7,r8,r9,bF⟩:=Aa H1.out.na;have aD:Below w1.heap.size w1 (w1.alloc (.cells #[.int .i64 0,.int .i64 0,.int .i64 0] 203)):=(bRf _ w1).alloc (nlr _) _;have H2:=Lq7 (H1.out.below aD);have aY:=Lq7 (aJ.out.below aD);go_wp2_with fail;refine(F2 t _).mono ?_;rintro e w2 ⟨cs,rfl,aQ,hag,-,x0,x1,x2,rfl⟩;rw[show(Cr t).isSome=true by rw[Hx.out];rfl];have Hag:=Lq7 (hag x Hx.out c1.F);have H3:=Lq7 (H2.out.below aQ);have aV:=Lq7 (aY.out.below aQ);obtain⟨s0,s1,s2,s3,s4,s5,s6,s7,s8,s9,aM⟩:=Aa H3.out.vb;obtain⟨d0,d1,d2,d3,d4,d5,d6⟩:=Aj H3.out.fc;go_wp2_with fail;refine bodyPost_ret (v:=.tuple #[.agg #[.int .i64 x0,.int .i64 x1,.string x2,.slice none 0 0,.slice none 0 0],Ai 0 0 0]) (by simp[Ai,results,Tryz.results206,go_sem,s0,s1,s2,s3,s4,s5,d0,d1,d2,d3]) rfl ?_;have H4:=H3.out.setV (.int .i64 x0) (.int .i64 x1) (.string x2) (.slice none 0 0) (.slice none 0 0);have aH:=H3.out.msV aV.out (.int .i64 x0) (.int .i64 x1) (.string x2) (.slice none 0 0) (.slice none 0 0);have bN:=H3.out.aggV Hag.out (.int .i64 x0) (.int .i64 x1) (.string x2) (.slice none 0 0) (.slice none 0 0);have H5:=H4.setF (.int .i64 0) (.int .i64 0) (.int .i64 0);have aC:=H4.msF aH (.int .i64 0) (.int .i64 0) (.int .i64 0);have Ha5:=H4.aggF bN (.int .i64 0) (.int .i64 0) (.int .i64 0);have bC:=fun(W:World)=>(bRf _ W).alloc (nlr _) (.cells #[.int .i64 x0,.int .i64 x1,.string x2,.slice none 0 0,.slice none 0 0] 25);exact⟨c1,(H5.below (bC _)).mv,aC.below (bC _),_,rfl,[_,_,_,_,_],rfl,Ha5.below (bC _),On Hx.out⟩
theorem Pw(mp mb hv G c w st t l k kids a cap)(hm:MS c w mp mb hv st)(hG:GOk G c w)(hr:Ag G w a (Az kids))(hle:¬st.left<=0)(ht:t.size<=maxLen)(hfx:Cr t=none)(x)(hx:Ej st.names t=some x):
  Calls Tryz.prog 206 #[ptr mp,.agg #[.int .i64 9,.string t,.int .i64 l,.int .i64 k,.slice a kids.length cap]] w (EP mp mb hv EVal badV c (.ok x { st with left:=st.left - 1}) w):=by
 have H0:=Lq7 (XB.start hm.ok #[.int .i64 9,.string t,.int .i64 l,.int .i64 k,.slice a kids.length cap] #[.int .i64 0,.int .i64 0,.string ⟨#[]⟩,.slice none 0 0,.slice none 0 0] #[.int .i64 0,.int .i64 0,.int .i64 0]);have Hx:=Lq7 hx;have Ht:=Lq7 ht;have bO:=Lq7 hfx;have aA:=Lq7 (Eb c mp mb hv st l k _ (hm.below (Dm w (.cells #[.int .i64 9,.string t,.int .i64 l,.int .i64 k,.slice a kids.length cap] 43) (.cells #[.int .i64 0,.int .i64 0,.string ⟨#[]⟩,.slice none 0 0,.slice none 0 0] 25) (.cells #[.int .i64 0,.int .i64 0,.int .i64 0] 203)).2.2.2.1));rw[show Da l k st = .ok () { st with left:=st.left - 1} from if_neg hle] at aA;have HG:=Lq7 hG;have Hr:=Lq7 hr;unfold ptr at aA |-;go_enter Tryz.func206,Tryz.ntmps206;go_wp2_with fail;refine aA.out.mono ?_;rintro e w1 ⟨c1,aB,aI,v1,rfl,aN⟩;obtain rfl:v1=Ai 0 0 0:=aN;have bD:=Lq7 (HG.out.mv (H0.out.mv.trans aB));have bE:=Lq7 (Hr.out.gmv HG.out (H0.out.mv.trans aB));have H1:=Lq7 (H0.out.later aB);have aJ:=Lq7 aI;unfold Ai;obtain⟨r0,r1,r2,r3,r4,r5,r6,r7,r8,r9,bF⟩:=Aa H1.out.na;have aD:Below w1.heap.size w1 (w1.alloc (.cells #[.int .i64 0,.int .i64 0,.int .i64 0] 203)):=(bRf _ w1).alloc (nlr _) _;have H2:=Lq7 (H1.out.below aD);have aY:=Lq7 (aJ.out.below aD);go_wp2_with fail;refine(F2 t _).mono ?_;rintro e w2 ⟨cs,rfl,aQ,-,-,x0,x1,x2,rfl⟩;rw[show(Cr t).isSome=false by rw[bO.out];rfl];have H3:=Lq7 (H2.out.below aQ);have aV:=Lq7 (aY.out.below aQ)
 go_upto_region 9 with fail
 have aW:Below w2.heap.size w2 (w2.alloc (.cells #[.int .i64 x0,.int .i64 x1,.string x2,.slice none 0 0,.slice none 0 0] 25)):=(bRf _ w2).alloc (nlr _) _;have H4:=Lq7 (H3.out.below aW);have aH:=Lq7 (aV.out.below aW);generalize World.alloc _ _=W at H4 aH |-;rcases aH.out.look_all t Ht.out with⟨h1,-⟩|⟨x',cs',h1,aU,bL,hlk⟩
 ·rw[Hx.out] at h1;cases h1
 obtain rfl:x=x':=(by rw[Hx.out] at h1;cases h1;rfl);obtain⟨xk,xn,xs,xl,xks⟩:=x;obtain⟨b1,e1,b2,e2,rfl,-,-⟩:=aU.val;have bH:=Lq7 hlk;have bB:=Lq7 aU;have bM:=Lq7 bL;refine A8 (.s 0 (.s 1 (.s 2 (.s 3 (.s 4 (.s 5 (.s 6 (.s 7 (.s 8 (.s 9 (.h 10 (.h 11 (.s 12 .nil))))))))))))) 99 (fun W'=>W'.heap[mp]? = some (.cells #[.map (some mb),hv.val,.int .i64 (st.left - 1)] 201 (0,0))/\W'.heap[w.heap.size]? = some (.cells #[.int .i64 9,.string t,.int .i64 l,.int .i64 k,.slice a kids.length cap] 43 (0,0))/\W'.heap[mb]? = W.heap[mb]?) ⟨aH.out.head,H4.out.na,rfl⟩ ?_;have H5:=Lq7 (H4.out.below ((bRf _ W).drew));have aC:=Lq7 (aH.out.below ((bRf _ W).drew));have aE:=aC.out.head;have aF:W.drew.heap[mb]? = W.heap[mb]?:=rfl;have bG:=Lq7 (bB.out.below ((bRf _ W).drew));generalize W.drew=Wd at H5 aC aE aF bG |-;refine A2 (.pointer (some ⟨mp,0,none⟩)) ?_;refine A2 (.pointer (some ⟨mp,0,none⟩)) ?_;refine A2 (.pointer (some ⟨mp,0,none⟩)) ?_;refine A6 (.map (some mb)) (fun W' hS=>?_) ?_
 ·obtain⟨s0,s1,s2,s3,s4,s5,s6⟩:=Aj hS.1;go_simp
 refine A2 (.pointer (some ⟨w.heap.size,1,none⟩)) ?_;refine A6 (.string t) (fun W' hS=>?_) ?_
 ·obtain⟨s0,s1,s2,s3,s4,s5,s6,s7,s8,s9,aM⟩:=Aa hS.2.1;go_simp
 refine A6 (.tuple #[.agg #[.int .i64 xk,.int .i64 xn,.string xs,.slice b1 xl.length e1,.slice b2 xks.length e2],.bool true]) (fun W' hS=>?_) ?_
 ·have hl:=bH.out W' hS.2.2;go_simp
 refine A2 (.tuple #[.agg #[.int .i64 xk,.int .i64 xn,.string xs,.slice b1 xl.length e1,.slice b2 xks.length e2],.bool true]) ?_;refine A2 (.agg #[.int .i64 xk,.int .i64 xn,.string xs,.slice b1 xl.length e1,.slice b2 xks.length e2]) ?_;refine A2 (.bool true) ?_;refine Ac rfl (fun Kx aR=>?_);go_wp2_with fail;have aG:Below Wd.heap.size Wd (Wd.alloc (.cells #[.int .i64 0,.int .i64 0,.string ⟨#[]⟩,.slice none 0 0,.slice none 0 0] 25)):=(bRf _ Wd).alloc (nlr _) _;refine aR _ _ (fun _=>⟨(aG.block _ (aC.out.ok.ml _ aC.out.hm)).trans aE,(aG.block _ (by have:=H5.out.size;omega)).trans H5.out.na,(aG.block _ (aC.out.ok.ml _ aC.out.hb)).trans aF⟩) ?_;(try simp only[gX,aP]);refine Ac rfl (fun Ky aS=>?_);go_wp2_with fail;have aG:∀o,Below Wd.heap.size Wd (Wd.alloc o):=fun o=>(bRf _ Wd).alloc (nlr _) _;refine aS _ _ (fun _=>⟨((aG _).block _ (aC.out.ok.ml _ aC.out.hm)).trans aE,((aG _).block _ (by have:=H5.out.size;omega)).trans H5.out.na,((aG _).block _ (aC.out.ok.ml _ aC.out.hb)).trans aF⟩) ?_;(try simp only[gX,aP]);refine Ad (.bool true) rfl rfl (fun W' hS=>?_) ?_
 ·clear hS;go_simp
 refine Ao ?_;(try simp only[gX,aP]);obtain⟨s0,s1,s2,s3,s4,s5,s6,s7,s8,s9,aM⟩:=Aa H5.out.vb;obtain⟨d0,d1,d2,d3,d4,d5,d6⟩:=Aj H5.out.fc;go_wp2_with fail;refine bodyPost_ret (v:=.tuple #[.agg #[.int .i64 xk,.int .i64 xn,.string xs,.slice b1 xl.length e1,.slice b2 xks.length e2],Ai 0 0 0]) (by simp[Ai,results,Tryz.results206,go_sem,s0,s1,s2,s3,s4,s5,d0,d1,d2,d3]) rfl ?_;have H6:=H5.out.setV (.int .i64 xk) (.int .i64 xn) (.string xs) (.slice b1 xl.length e1) (.slice b2 xks.length e2);have Hm6:=H5.out.msV aC.out (.int .i64 xk) (.int .i64 xn) (.string xs) (.slice b1 xl.length e1) (.slice b2 xks.length e2);have Ha6:=H5.out.aggV bG.out (.int .i64 xk) (.int .i64 xn) (.string xs) (.slice b1 xl.length e1) (.slice b2 xks.length e2);have H7:=H6.setF (.int .i64 0) (.int .i64 0) (.int .i64 0);have Hm7:=H6.msF Hm6 (.int .i64 0) (.int .i64 0) (.int .i64 0);have Ha7:=H6.aggF Ha6 (.int .i64 0) (.int .i64 0) (.int .i64 0);have bC:=fun(W:World)=>(bRf _ W).alloc (nlr _) (.cells #[.int .i64 xk,.int .i64 xn,.string xs,.slice b1 xl.length e1,.slice b2 xks.length e2] 25);exact⟨c1,(H7.below (bC _)).mv,Hm7.below (bC _),_,rfl,[_,_,_,_,_],rfl,Ha7.below (bC _),bM.out⟩
theorem Ng(mp mb hv G c w st t l k kids a cap)(hm:MS c w mp mb hv st)(hG:GOk G c w)(hr:Ag G w a (Az kids))(hle:¬st.left<=0)(ht:t.size<=maxLen)(hfx:Cr t=none)(hx:Ej st.names t=none):
  Calls Tryz.prog 206 #[ptr mp,.agg #[.int .i64 9,.string t,.int .i64 l,.int .i64 k,.slice a kids.length cap]] w (EP mp mb hv EVal badV c (.err 7 l k) w):=by
 have H0:=Lq7 (XB.start hm.ok #[.int .i64 9,.string t,.int .i64 l,.int .i64 k,.slice a kids.length cap] #[.int .i64 0,.int .i64 0,.string ⟨#[]⟩,.slice none 0 0,.slice none 0 0] #[.int .i64 0,.int .i64 0,.int .i64 0]);have Hx:=Lq7 hx;have Ht:=Lq7 ht;have bO:=Lq7 hfx;clear hx ht hfx;have aA:=Lq7 (Eb c mp mb hv st l k _ (hm.below (Dm w (.cells #[.int .i64 9,.string t,.int .i64 l,.int .i64 k,.slice a kids.length cap] 43) (.cells #[.int .i64 0,.int .i64 0,.string ⟨#[]⟩,.slice none 0 0,.slice none 0 0] 25) (.cells #[.int .i64 0,.int .i64 0,.int .i64 0] 203)).2.2.2.1));rw[show Da l k st = .ok () { st with left:=st.left - 1} from if_neg hle] at aA;have HG:=Lq7 hG;have Hr:=Lq7 hr;clear hm hG hr hle;unfold ptr at aA |-;go_enter Tryz.func206,Tryz.ntmps206;go_wp2_with fail;refine aA.out.mono ?_;rintro e w1 ⟨c1,aB,aI,v1,rfl,aN⟩;obtain rfl:v1=Ai 0 0 0:=aN;have bD:=Lq7 (HG.out.mv (H0.out.mv.trans aB));have bE:=Lq7 (Hr.out.gmv HG.out (H0.out.mv.trans aB));have H1:=Lq7 (H0.out.later aB);have aJ:=Lq7 aI;clear aB aI aA H0 HG Hr;unfold Ai;obtain⟨r0,r1,r2,r3,r4,r5,r6,r7,r8,r9,bF⟩:=Aa H1.out.na;have aD:Below w1.heap.size w1 (w1.alloc (.cells #[.int .i64 0,.int .i64 0,.int .i64 0] 203)):=(bRf _ w1).alloc (nlr _) _;have H2:=Lq7 (H1.out.below aD);have aY:=Lq7 (aJ.out.below aD);clear aD H1 aJ;go_wp2_with fail;refine(F2 t _).mono ?_;rintro e w2 ⟨cs,rfl,aQ,-,-,x0,x1,x2,rfl⟩;rw[show(Cr t).isSome=false by rw[bO.out];rfl];have H3:=Lq7 (H2.out.below aQ);have aV:=Lq7 (aY.out.below aQ);clear aQ H2 aY r0 r1 r2 r3 r4 r5 r6 r7 r8 r9 bF
 go_upto_region 9 with fail
 have aW:Below w2.heap.size w2 (w2.alloc (.cells #[.int .i64 x0,.int .i64 x1,.string x2,.slice none 0 0,.slice none 0 0] 25)):=(bRf _ w2).alloc (nlr _) _;have H4:=Lq7 (H3.out.below aW);have aH:=Lq7 (aV.out.below aW);generalize World.alloc _ _=W at H4 aH |-;clear aW H3 aV;rcases aH.out.look_all t Ht.out with⟨-,hlk⟩|⟨x',cs',h1,-,-,-⟩
 case inr=>rw[Hx.out] at h1;cases h1
 have bH:=Lq7 hlk;clear hlk;unfold zeroV at bH;refine A8 (.s 0 (.s 1 (.s 2 (.s 3 (.s 4 (.s 5 (.s 6 (.s 7 (.s 8 (.s 9 (.h 10 (.h 11 (.s 12 .nil))))))))))))) 99 (fun W'=>W'.heap[mp]? = some (.cells #[.map (some mb),hv.val,.int .i64 (st.left - 1)] 201 (0,0))/\W'.heap[w.heap.size]? = some (.cells #[.int .i64 9,.string t,.int .i64 l,.int .i64 k,.slice a kids.length cap] 43 (0,0))/\W'.heap[mb]? = W.heap[mb]?) ⟨aH.out.head,H4.out.na,rfl⟩ ?_;have H5:=Lq7 (H4.out.below ((bRf _ W).drew));have aC:=Lq7 (aH.out.below ((bRf _ W).drew));have aE:=aC.out.head;have aF:W.drew.heap[mb]? = W.heap[mb]?:=rfl;generalize W.drew=Wd at H5 aC aE aF |-;clear H4 aH;refine A2 (.pointer (some ⟨mp,0,none⟩)) ?_;refine A2 (.pointer (some ⟨mp,0,none⟩)) ?_;refine A2 (.pointer (some ⟨mp,0,none⟩)) ?_;refine A6 (.map (some mb)) (fun W' hS=>?_) ?_
 ·obtain⟨s0,s1,s2,s3,s4,s5,s6⟩:=Aj hS.1;clear hS;go_simp
 refine A2 (.pointer (some ⟨w.heap.size,1,none⟩)) ?_;refine A6 (.string t) (fun W' hS=>?_) ?_
 ·obtain⟨s0,s1,s2,s3,s4,s5,s6,s7,s8,s9,aM⟩:=Aa hS.2.1;clear hS;go_simp
 refine A6 (.tuple #[.agg #[.int .i64 0,.int .i64 0,.string ⟨#[]⟩,.slice none 0 0,.slice none 0 0],.bool false]) (fun W' hS=>?_) ?_
 ·have hl:=bH.out W' hS.2.2;clear hS;go_simp
 refine A2 (.tuple #[.agg #[.int .i64 0,.int .i64 0,.string ⟨#[]⟩,.slice none 0 0,.slice none 0 0],.bool false]) ?_;refine A2 (.agg #[.int .i64 0,.int .i64 0,.string ⟨#[]⟩,.slice none 0 0,.slice none 0 0]) ?_;refine A2 (.bool false) ?_;refine Ac rfl (fun Kx aR=>?_);go_wp2_with fail;have aG:Below Wd.heap.size Wd (Wd.alloc (.cells #[.int .i64 0,.int .i64 0,.string ⟨#[]⟩,.slice none 0 0,.slice none 0 0] 25)):=(bRf _ Wd).alloc (nlr _) _;refine aR _ _ (fun _=>⟨(aG.block _ (aC.out.ok.ml _ aC.out.hm)).trans aE,(aG.block _ (by have:=H5.out.size;omega)).trans H5.out.na,(aG.block _ (aC.out.ok.ml _ aC.out.hb)).trans aF⟩) ?_;clear aG aR;(try simp only[gX,aP]);refine Ac rfl (fun Ky aS=>?_);go_wp2_with fail;have aG:∀o,Below Wd.heap.size Wd (Wd.alloc o):=fun o=>(bRf _ Wd).alloc (nlr _) _;refine aS _ _ (fun _=>⟨((aG _).block _ (aC.out.ok.ml _ aC.out.hm)).trans aE,((aG _).block _ (by have:=H5.out.size;omega)).trans H5.out.na,((aG _).block _ (aC.out.ok.ml _ aC.out.hb)).trans aF⟩) ?_;clear aS aG;(try simp only[gX,aP]);refine Ad (.bool false) rfl rfl (fun W' hS=>?_) ?_
 ·clear hS;go_simp
 refine Ao ?_;(try simp only[gX,aP]);have H6:=Lq7 (H5.out.below ((bRf _ Wd).alloc (nlr _) (.cells #[.int .i64 0,.int .i64 0,.string ⟨#[]⟩,.slice none 0 0,.slice none 0 0] 25)));generalize World.alloc _ _=Wb at H6 |-;clear H5 aC aE aF
 go_upto_region 11 with fail
 refine A8 (.s 0 (.s 1 (.s 2 (.s 3 (.h 4 (.h 5 .nil)))))) 99 (fun W'=>W'.heap[w.heap.size]? = some (.cells #[.int .i64 9,.string t,.int .i64 l,.int .i64 k,.slice a kids.length cap] 43 (0,0))) H6.out.na ?_;have H7:=Lq7 (H6.out.below ((bRf _ Wb).drew));generalize Wb.drew=Wd2 at H7 |-;clear H6;refine Ah (.agg #[.int .i64 0,.int .i64 0,.string ⟨#[]⟩,.slice none 0 0,.slice none 0 0]) ?_;refine Ah (.pointer (some ⟨w.heap.size,2,none⟩)) ?_;refine A2 (.agg #[.int .i64 l,.int .i64 k]) ?_;refine Ah (.agg #[.int .i64 7,.int .i64 l,.int .i64 k]) ?_;obtain⟨s0,s1,s2,s3,s4,s5,s6,s7,s8,s9,aM⟩:=Aa H7.out.vb;refine Ac rfl (fun Kx aR=>?_);go_wp2_with fail;have H8:=Lq7 (H7.out.setV (.int .i64 0) (.int .i64 0) (.string ⟨#[]⟩) (.slice none 0 0) (.slice none 0 0));unfold Dq at H8;refine aR _ _ (fun _=>H8.out.na) ?_;generalize wsC _ _ _=W8 at H8 |-;(try simp only[gX,aP]);clear s0 s1 s2 s3 s4 s5 s6 s7 s8 s9 aM aR H7;obtain⟨d0,d1,d2,d3,d4,d5,d6⟩:=Aj H8.out.fc;refine Ac rfl (fun Ky aS=>?_);go_wp2_with fail;have H9:=Lq7 (H8.out.setF (.int .i64 7) (.int .i64 l) (.int .i64 k));unfold Cb at H9;refine aS _ _ (fun _=>H9.out.na) ?_;generalize wsC _ _ _=W9 at H9 |-;refine Ao ?_;(try simp only[gX,aP]);clear d0 d1 d2 d3 d4 d5 d6 aS H8;obtain⟨s0,s1,s2,s3,s4,s5,s6,s7,s8,s9,aM⟩:=Aa H9.out.vb;obtain⟨d0,d1,d2,d3,d4,d5,d6⟩:=Aj H9.out.fc;go_wp2_with fail;refine bodyPost_ret (v:=badV 7 l k) (by simp[badV,zeroV,Ai,results,Tryz.results206,go_sem,s1,s2,s3,s4,s5,d1,d2,d3]) rfl ?_;exact⟨_,H9.out.mv,rfl⟩
theorem Rs(kk)(hk:kk≠9/\kk≠10/\kk≠11/\kk≠12/\kk≠13/\kk≠14/\kk≠16)(mp mb hv G c w st t l k kids a cap)(hm:MS c w mp mb hv st)(hG:GOk G c w)(hr:Ag G w a (Az kids))(hle:¬st.left<=0):
  Calls Tryz.prog 206 #[ptr mp,.agg #[.int .i64 kk,.string t,.int .i64 l,.int .i64 k,.slice a kids.length cap]] w (EP mp mb hv EVal badV c (.err 3 l k) w):=by
 have H0:=Lq7 (XB.start hm.ok #[.int .i64 kk,.string t,.int .i64 l,.int .i64 k,.slice a kids.length cap] #[.int .i64 0,.int .i64 0,.string ⟨#[]⟩,.slice none 0 0,.slice none 0 0] #[.int .i64 0,.int .i64 0,.int .i64 0]);obtain⟨g9,g10,g11,g12,g13,g14,g16⟩:=hk;have f9:(kk==9)=false:=(by simpa using g9);have f10:(kk==10)=false:=(by simpa using g10);have f11:(kk==11)=false:=(by simpa using g11);have f12:(kk==12)=false:=(by simpa using g12);have f13:(kk==13)=false:=(by simpa using g13);have f14:(kk==14)=false:=(by simpa using g14);have f16:(kk==16)=false:=(by simpa using g16);have aA:=Lq7 (Eb c mp mb hv st l k _ (hm.below (Dm w (.cells #[.int .i64 kk,.string t,.int .i64 l,.int .i64 k,.slice a kids.length cap] 43) (.cells #[.int .i64 0,.int .i64 0,.string ⟨#[]⟩,.slice none 0 0,.slice none 0 0] 25) (.cells #[.int .i64 0,.int .i64 0,.int .i64 0] 203)).2.2.2.1));rw[show Da l k st = .ok () { st with left:=st.left - 1} from if_neg hle] at aA;have HG:=Lq7 hG;have Hr:=Lq7 hr;unfold ptr at aA |-;go_enter Tryz.func206,Tryz.ntmps206;go_wp2_with fail;refine aA.out.mono ?_;rintro e w1 ⟨c1,aB,aI,v1,rfl,aN⟩;obtain rfl:v1=Ai 0 0 0:=aN;have bD:=Lq7 (HG.out.mv (H0.out.mv.trans aB));have bE:=Lq7 (Hr.out.gmv HG.out (H0.out.mv.trans aB));have H1:=Lq7 (H0.out.later aB);have aJ:=Lq7 aI;unfold Ai;obtain⟨r0,r1,r2,r3,r4,r5,r6,r7,r8,r9,bF⟩:=Aa H1.out.na
 go_upto_region 26 with fail
 have aD:Below w1.heap.size w1 (w1.alloc (.cells #[.int .i64 0,.int .i64 0,.int .i64 0] 203)):=(bRf _ w1).alloc (nlr _) _;have H6:=Lq7 (H1.out.below aD);generalize World.alloc _ _=Wb at H6 |-;refine A8 (.s 0 (.s 1 (.s 2 (.s 3 (.h 4 (.h 5 .nil)))))) 99 (fun W'=>W'.heap[w.heap.size]? = some (.cells #[.int .i64 kk,.string t,.int .i64 l,.int .i64 k,.slice a kids.length cap] 43 (0,0))) H6.out.na ?_;have H7:=Lq7 (H6.out.below ((bRf _ Wb).drew));generalize Wb.drew=Wd2 at H7 |-;refine Ah (.agg #[.int .i64 0,.int .i64 0,.string ⟨#[]⟩,.slice none 0 0,.slice none 0 0]) ?_;refine Ah (.pointer (some ⟨w.heap.size,2,none⟩)) ?_;refine A2 (.agg #[.int .i64 l,.int .i64 k]) ?_;refine Ah (.agg #[.int .i64 3,.int .i64 l,.int .i64 k]) ?_;obtain⟨s0,s1,s2,s3,s4,s5,s6,s7,s8,s9,aM⟩:=Aa H7.out.vb;refine Ac rfl (fun Kx aR=>?_);go_wp2_with fail;have H8:=Lq7 (H7.out.setV (.int .i64 0) (.int .i64 0) (.string ⟨#[]⟩) (.slice none 0 0) (.slice none 0 0));unfold Dq at H8;refine aR _ _ (fun _=>H8.out.na) ?_;generalize wsC _ _ _=W8 at H8 |-;(try simp only[gX,aP]);obtain⟨d0,d1,d2,d3,d4,d5,d6⟩:=Aj H8.out.fc;refine Ac rfl (fun Ky aS=>?_);go_wp2_with fail;have H9:=Lq7 (H8.out.setF (.int .i64 3) (.int .i64 l) (.int .i64 k));unfold Cb at H9;refine aS _ _ (fun _=>H9.out.na) ?_;generalize wsC _ _ _=W9 at H9 |-;refine Ao ?_;(try simp only[gX,aP]);obtain⟨s0,s1,s2,s3,s4,s5,s6,s7,s8,s9,aM⟩:=Aa H9.out.vb;obtain⟨d0,d1,d2,d3,d4,d5,d6⟩:=Aj H9.out.fc;go_wp2_with fail;refine bodyPost_ret (v:=badV 3 l k) (by simp[badV,zeroV,Ai,results,Tryz.results206,go_sem,s1,s2,s3,s4,s5,d1,d2,d3]) rfl ?_;exact⟨_,H9.out.mv,rfl⟩
end Go.Proofs.YtkehdallfohjfaaGreatDoor
namespace Go.Proofs.YtkehdallfohjfaaGreatDoor
open Go Go.RowKit
open Nat renaming le_refl->nlr,lt_of_lt_of_le->nll,zero_le->nlz
open Go.Lib renaming hid->Lq7
open Go.Act renaming put->aP
open Go.RowKit.Below renaming refl->bRf
open Go.World renaming setCell->wsC
open List renaming mem_cons_self->lmS,mem_cons_of_mem->lmO,getElem?_eq_getElem->lgE,mem_of_getElem? -> lgM,length_append->lnA
open _root_.Array renaming getElem?_eq_some_iff->agS
set_option maxRecDepth 100000
set_option maxHeartbeats 16000000
theorem str_any(t w):
  Calls Tryz.prog 227 #[.string t] w (fun e w'=>e = .returned (.agg #[.int .i64 3,.int .i64 0,.string t,.slice none 0 0,.slice none 0 0])/\Below w.heap.size w w'):=by
 obtain⟨r0,r1,r2,r3,r4,r5,r6,r7,r8,r9,r10⟩:=Aa (heap_alloc_new w (.cells #[.int .i64 0,.int .i64 0,.string ⟨#[]⟩,.slice none 0 0,.slice none 0 0] 25));go_enter Tryz.func227,Tryz.ntmps227;go_wp2_with fail;refine bodyPost_ret (v:=.agg #[.int .i64 3,.int .i64 0,.string t,.slice none 0 0,.slice none 0 0]) (by simp[results,Tryz.results227,go_sem]) rfl ?_;exact⟨rfl,(bRf _ w).alloc (nlr _) _⟩
theorem Rw(mp mb hv G c w st t l k kids a cap)(hm:MS c w mp mb hv st)(hG:GOk G c w)(hr:Ag G w a (Az kids))(hle:¬st.left<=0)(ht:t.size<=9223372036854775807):
  Calls Tryz.prog 206 #[ptr mp,.agg #[.int .i64 11,.string t,.int .i64 l,.int .i64 k,.slice a kids.length cap]] w (EP mp mb hv EVal badV c (Dh (.mk 3 0 t [] []) l k { st with left:=st.left - 1}) w):=by
 have H0:=Lq7 (XB.start hm.ok #[.int .i64 11,.string t,.int .i64 l,.int .i64 k,.slice a kids.length cap] #[.int .i64 0,.int .i64 0,.string ⟨#[]⟩,.slice none 0 0,.slice none 0 0] #[.int .i64 0,.int .i64 0,.int .i64 0]);have Hsv:Hid (A4 (.mk 3 0 t [] [])):=Lq7 (by rw[A4];exact⟨⟨ht,rfl⟩,by simp,by simp,by simp,by rw[Bk];trivial⟩);have aB:=Lq7 (Eb c mp mb hv st l k _ (hm.below (Dm w (.cells #[.int .i64 11,.string t,.int .i64 l,.int .i64 k,.slice a kids.length cap] 43) (.cells #[.int .i64 0,.int .i64 0,.string ⟨#[]⟩,.slice none 0 0,.slice none 0 0] 25) (.cells #[.int .i64 0,.int .i64 0,.int .i64 0] 203)).2.2.2.1));rw[show Da l k st = .ok () { st with left:=st.left - 1} from if_neg hle] at aB;have HG:=Lq7 hG;have Hr:=Lq7 hr;unfold ptr at aB |-;go_enter Tryz.func206,Tryz.ntmps206;go_wp2_with fail;refine aB.out.mono ?_;rintro e w1 ⟨c1,aC,hms,v1,rfl,hv1⟩;obtain rfl:v1=Ai 0 0 0:=hv1;have HG1:=Lq7 (HG.out.mv (H0.out.mv.trans aC));have Hr1:=Lq7 (Hr.out.gmv HG.out (H0.out.mv.trans aC));have H1:=Lq7 (H0.out.later aC);have Hm1:=Lq7 hms;unfold Ai;obtain⟨r0,r1,r2,r3,r4,r5,r6,r7,r8,r9,r10⟩:=Aa H1.out.na;have aI:Below w1.heap.size w1 (w1.alloc (.cells #[.int .i64 0,.int .i64 0,.int .i64 0] 203)):=(bRf _ w1).alloc (nlr _) _;have H2:=Lq7 (H1.out.below aI);have aJ:=Lq7 (Hm1.out.below aI)
 go_upto_region 17 with fail
 generalize World.alloc _ _=W at H2 aJ |-;refine A8 (.s 0 (.s 1 (.s 3 (.s 4 (.h 2 (.h 5 (.s 6 (.s 7 (.h 8 (.h 9 .nil)))))))))) 99 (fun W'=>W'.heap[w.heap.size]? = some (.cells #[.int .i64 11,.string t,.int .i64 l,.int .i64 k,.slice a kids.length cap] 43 (0,0))) H2.out.na ?_;have H5:=Lq7 (H2.out.below ((bRf _ W).drew));have aM:=Lq7 (aJ.out.below ((bRf _ W).drew));generalize W.drew=Wd at H5 aM |-;refine Ah (.pointer (some ⟨w.heap.size,1,none⟩)) ?_;refine A2 (.string t) ?_;refine Ah (.pointer (some ⟨w.heap.size,2,none⟩)) ?_;refine A2 (.agg #[.int .i64 l,.int .i64 k]) ?_;refine Ac rfl (fun Kx hKx=>?_);go_wp2_with fail;refine(str_any t _).mono ?_;rintro e w3 ⟨rfl,aN⟩;have H6:=Lq7 (H5.out.below aN);have aQ:=Lq7 (aM.out.below aN);go_wp2_with fail;refine hKx _ _ (fun _=>H6.out.na) ?_;(try simp only[gX,aP]);have hag:Ay c1.F w3 (valD (.mk 3 0 t [] [])) [.int .i64 3,.int .i64 0,.string t,.slice none 0 0,.slice none 0 0]:=Ay.val_mk (l:=[]) (ks:=[]) _ _ _ _ _ (Ag.nil _) (Ag.nil _);have Hmd:=Lq7 (Ol (.mk 3 0 t [] []) Hsv.out c1.F _ l k w3 aQ.out.ok.fl hag);refine Ac rfl (fun Ky aR=>?_);go_wp2_with fail;refine Hmd.out.mono ?_;rintro e w4 ⟨aS,rfl⟩;have H7:=Lq7 (H6.out.below aS);have Hm7:=Lq7 (aQ.out.below aS);by_cases hck:A7 (.mk 3 0 t [] [])=true
 ·rw[if_pos hck];have Hck:=Lq7 hck;have aA:Hid (Dh (.mk 3 0 t [] []) l k { st with left:=st.left - 1} = .ok (.mk 3 0 t [] []) { st with left:=st.left - 1}):=Lq7 (by unfold Dh;rw[if_pos hck];rfl);unfold Ai;go_wp2_with fail;refine aR _ _ (fun _=>H7.out.na) ?_;(try simp only[gX,aP]);refine Ah (.agg #[.int .i64 3,.int .i64 0,.string t,.slice none 0 0,.slice none 0 0]) ?_;refine Ah (.agg #[.int .i64 0,.int .i64 0,.int .i64 0]) ?_;obtain⟨s0,s1,s2,s3,s4,s5,s6,s7,s8,s9,aD⟩:=Aa H7.out.vb;refine Ac rfl (fun Kv aE=>?_);go_wp2_with fail;have H8:=Lq7 (H7.out.setV (.int .i64 3) (.int .i64 0) (.string t) (.slice none 0 0) (.slice none 0 0));have aF:=Lq7 (H7.out.msV Hm7.out (.int .i64 3) (.int .i64 0) (.string t) (.slice none 0 0) (.slice none 0 0));unfold Dq at H8 aF;refine aE _ _ (fun _=>H8.out.na) ?_;generalize wsC _ _ _=W8 at H8 aF |-;(try simp only[gX,aP]);obtain⟨d0,d1,d2,d3,d4,d5,d6⟩:=Aj H8.out.fc;refine Ac rfl (fun Kf aG=>?_);go_wp2_with fail;have H9:=Lq7 (H8.out.setF (.int .i64 0) (.int .i64 0) (.int .i64 0));have aH:=Lq7 (H8.out.msF aF.out (.int .i64 0) (.int .i64 0) (.int .i64 0));unfold Cb at H9 aH;refine aG _ _ (fun _=>H9.out.na) ?_;generalize wsC _ _ _=W9 at H9 aH |-;refine Ao ?_;(try simp only[gX,aP]);obtain⟨s0,s1,s2,s3,s4,s5,s6,s7,s8,s9,aD⟩:=Aa H9.out.vb;obtain⟨d0,d1,d2,d3,d4,d5,d6⟩:=Aj H9.out.fc;go_wp2_with fail;refine bodyPost_ret (v:=.tuple #[.agg #[.int .i64 3,.int .i64 0,.string t,.slice none 0 0,.slice none 0 0],Ai 0 0 0]) (by simp[Ai,results,Tryz.results206,go_sem,s1,s2,s3,s4,s5,d1,d2,d3]) rfl ?_;rw[aA.out];exact⟨c1,H9.out.mv,aH.out,_,rfl,[_,_,_,_,_],rfl,Ay.val_mk (l:=[]) (ks:=[]) _ _ _ _ _ (Ag.nil _) (Ag.nil _),Hck.out⟩
 ·rw[if_neg hck];have aA:Hid (Dh (.mk 3 0 t [] []) l k { st with left:=st.left - 1} = .err 6 l k):=Lq7 (by unfold Dh;rw[if_neg hck];rfl);unfold badV zeroV Ai;go_wp2_with fail;refine aR _ _ (fun _=>H7.out.na) ?_;(try simp only[gX,aP]);refine Ah (.agg #[.int .i64 0,.int .i64 0,.string ⟨#[]⟩,.slice none 0 0,.slice none 0 0]) ?_;refine Ah (.agg #[.int .i64 6,.int .i64 l,.int .i64 k]) ?_;obtain⟨s0,s1,s2,s3,s4,s5,s6,s7,s8,s9,aD⟩:=Aa H7.out.vb;refine Ac rfl (fun Kv aE=>?_);go_wp2_with fail;have H8:=Lq7 (H7.out.setV (.int .i64 0) (.int .i64 0) (.string ⟨#[]⟩) (.slice none 0 0) (.slice none 0 0));unfold Dq at H8;refine aE _ _ (fun _=>H8.out.na) ?_;generalize wsC _ _ _=W8 at H8 |-;(try simp only[gX,aP]);obtain⟨d0,d1,d2,d3,d4,d5,d6⟩:=Aj H8.out.fc;refine Ac rfl (fun Kf aG=>?_);go_wp2_with fail;have H9:=Lq7 (H8.out.setF (.int .i64 6) (.int .i64 l) (.int .i64 k));unfold Cb at H9;refine aG _ _ (fun _=>H9.out.na) ?_;generalize wsC _ _ _=W9 at H9 |-;refine Ao ?_;(try simp only[gX,aP]);obtain⟨s0,s1,s2,s3,s4,s5,s6,s7,s8,s9,aD⟩:=Aa H9.out.vb;obtain⟨d0,d1,d2,d3,d4,d5,d6⟩:=Aj H9.out.fc;go_wp2_with fail;refine bodyPost_ret (v:=badV 6 l k) (by simp[badV,zeroV,Ai,results,Tryz.results206,go_sem,s1,s2,s3,s4,s5,d1,d2,d3]) rfl ?_;rw[aA.out];exact⟨_,H9.out.mv,rfl⟩
def Kw(ex:Nd->EM Vl)(n:Nd):EM Vl:=EM.bind (Ep ex n.kids []) fun l=>Dh (.mk 4 0 ⟨#[]⟩ l []) n.ln n.cl
theorem Px{ans ex st kk l k t kids}(hle:st.left<=0):La ans ex (.mk kk t l k kids) st = .err 12 l k:=
 Dg (if_pos hle)
theorem eExpr_go{ans ex st kk l k t kids}(hle:¬st.left<=0):La ans ex (.mk kk t l k kids) st =
  (if kk=9 then
   match Cr t with
   | some v=> .ok v { st with left:=st.left - 1}
   | none=>match Ej st.names t with
    | some v=> .ok v { st with left:=st.left - 1}
    | none=> .err 7 l k
  else if kk=10 then match F3 t with
   | some x=> .ok (.mk 2 x ⟨#[]⟩ [] []) { st with left:=st.left - 1}
   | none=> .out
  else if kk=12 then Kw ex (.mk kk t l k kids) { st with left:=st.left - 1}
  else if kk=11 then Dh (.mk 3 0 t [] []) l k { st with left:=st.left - 1}
  else if kk=13\/kk=14\/kk=16 then .out
  else .err 3 l k):=
 Cf (if_neg hle)
theorem Rt{mp mb hv ex}(hl:Jy 228 mp mb hv (Kw ex)):
  Jy 206 mp mb hv (La hv.ans ex):=by
 intro G c w st n v hm hG hn aB aA;obtain⟨kk,t,l,k,kids⟩:=n;obtain⟨a,cap,rfl,hr⟩:=hn.open;by_cases hle:st.left<=0
 ·rw[Px hle];exact Rq kk mp mb hv G c w st t l k kids a cap hm hG hle
 rw[eExpr_go hle] at aA |-;by_cases h9:kk=9
 ·subst h9;rw[if_pos rfl];cases hf:Cr t with
  | some x=>exact Pv mp mb hv G c w st t l k kids a cap hm hG hr hle x hf
  | none=>
   rw[Dn] at aB;cases hx:Ej st.names t with
   | some x=>exact Pw mp mb hv G c w st t l k kids a cap hm hG hr hle aB.1 hf x hx
   | none=>exact Ng mp mb hv G c w st t l k kids a cap hm hG hr hle aB.1 hf hx
 rw[if_neg h9] at aA |-;by_cases h10:kk=10
 ·subst h10;rw[if_pos rfl] at aA |-;cases hx:F3 t with
  | none=>rw[hx] at aA;exact absurd rfl aA
  | some x=>exact expr_num mp mb hv G c w st t l k kids a cap hm hG hr hle x hx
 rw[if_neg h10] at aA |-;by_cases h12:kk=12
 ·subst h12;rw[if_pos rfl] at aA |-;exact Rr mp mb hv G c w st t l k kids a cap hm hG hr hle aB (Kw ex) hl aA
 rw[if_neg h12] at aA |-;by_cases h11:kk=11
 ·subst h11;rw[if_pos rfl] at aA |-;rw[Dn] at aB;exact Rw mp mb hv G c w st t l k kids a cap hm hG hr hle aB.1
 rw[if_neg h11] at aA |-;by_cases h14:kk=13\/kk=14\/kk=16
 ·rw[if_pos h14] at aA;exact absurd rfl aA
 rw[if_neg h14] at aA |-;exact Rs kk ⟨h9,h10,h11,h12,fun h=>h14 (.inl h),fun h=>h14 (.inr (.inl h)),fun h=>h14 (.inr (.inr h))⟩ mp mb hv G c w st t l k kids a cap hm hG hr hle
theorem Oo{l}(h:∀x∈l,A4 x):Bk l:=by
 induction l with
 | nil=>rw[Bk];trivial
 | cons v t ih=>rw[Bk];exact⟨h v (lmS ..),ih fun x hx=>h x (lmO _ hx)⟩
theorem MS.join{c c' w w' mp mb hv hv' st st'}(h:MS c w mp mb hv st)(k:Mv c w c' w')(h':MS c' w' mp mb hv' st'):MS (c'.with c.F) w' mp mb hv' st':=
 h'.with fun b hb=>⟨nll (h.ok.fl b hb) k.size,fun hm=>by
  rcases k.m b hm with h1|h1
  ·exact h.ok.apart b hb h1
  ·have:=h.ok.fl b hb;omega⟩
theorem Mv.join{c c' w w'}(k:Mv c w c' w'):Mv c w (c'.with c.F) w':=
 ⟨k.os,k.tape,k.output,k.size,k.block,k.m,fun b hb=>by rcases hb with hb|hb;exact k.f b hb;exact .inl hb⟩
theorem MS.setO{c W mp mb hv st}(h:MS c W mp mb hv st){b}(hb:¬c.M b/\¬c.F b)(v0 v1 v2):MS c (Cb W b v0 v1 v2) mp mb hv st:=
 h.other (by unfold Cb;simp) (fun k _ hMF=>by
  have hne:k≠b:=fun e=>(by subst e;rcases hMF with h1|h1;exact hb.1 h1;exact hb.2 h1);unfold Cb;rw[Af hne,Af hne,Af hne])
structure LI(mp mb:Nat)(hv:Fl)(G:Nat->Prop)(c0:Ctx)(w:World)(node:Array Value)(a:Option Addr)(kids:List Nd)(c:Ctx)(W:World)(st:St)(L:Value)(acc:List Vl):Prop where
 xb:XB c0 w c W node #[.int .i64 0,.int .i64 0,.string ⟨#[]⟩,.slice none 0 0,.slice none 0 0] #[.int .i64 0,.int .i64 0,.int .i64 0]
 sb:W.heap[w.heap.size+1+1+1]? = some (.cells #[.int .i64 4,.int .i64 0,.string ⟨#[]⟩,L,.slice none 0 0] 25 (0,0))
 so:¬c.M (w.heap.size+1+1+1)/\¬c.F (w.heap.size+1+1+1)
 own:Bp c.F W (w.heap.size+1+1+1+1) 25 5 L (A5 acc)
 oo:∀g,L.ownBlock=some g->¬c.M g/\¬c.F g
 ms:MS c W mp mb hv st
 g:GOk G c W
 g0:∀b,G b->b<w.heap.size
 row:Ag G W a (Az kids)
 chk:∀x∈acc,A7 x=true
section
variable {mp mb:Nat} {hv:Fl} {G:Nat->Prop} {c0 c c':Ctx} {w W W':World} {node:Array Value} {a:Option Addr} {kids:List Nd} {st st':St} {L:Value} {acc:List Vl}
theorem LI.below(h:LI mp mb hv G c0 w node a kids c W st L acc)(k:Below W.heap.size W W'):LI mp mb hv G c0 w node a kids c W' st L acc:=
 ⟨h.xb.below k,(k.block _ (agS.1 h.sb).1).trans h.sb,h.so,h.own.below k,h.oo,h.ms.below k,h.g.mv (.of_below c k),h.g0,h.row.below k,h.chk⟩
theorem Bp.wide{F G:Nat->Prop}{w:World}{base:Nat}{e:TypeId}{size:Nat}{v:Value}{l:List (List Dat)}(h:Bp F w base e size v l)(hF:∀b,F b->G b):Bp G w base e size v l:=by
 obtain⟨css,h1,h2,h3,h4⟩:=h;exact⟨css,h1,h2,h3,fun j ds cs h5 h6=>(h4 j ds cs h5 h6).wider fun b hb _=>⟨hF b hb.1,hb.2⟩⟩
theorem LI.later(h:LI mp mb hv G c0 w node a kids c W st L acc)(k:Mv c W c' W')(h':MS c' W' mp mb hv st'):LI mp mb hv G c0 w node a kids (c'.with c.F) W' st' L acc:=by
 have aA:=(agS.1 h.sb).1;refine⟨h.xb.later k.join,(k.block _ aA h.so.1).trans h.sb,⟨fun hm=>?_,fun hm=>?_⟩,?_,fun g hg=>⟨fun hm=>?_,fun hm=>?_⟩,h.ms.join k h',h.g.mv k.join,h.g0,h.row.gmv h.g k,h.chk⟩
 ·rcases k.m _ hm with h1|h1
  ·exact h.so.1 h1
  ·omega
 ·rcases hm with hm|hm
  ·rcases k.f _ hm with h1|h1
   ·exact h.so.2 h1
   ·omega
  ·exact h.so.2 hm
 ·refine Bp.wide (F:=c.F) (h.own.keep (fun b hl hb=>k.block b hl ?_) k.size) fun b hb=> .inr hb;rcases hb with hb|hb
  ·exact h.ms.ok.apart b hb
  ·exact(h.oo b hb).1
 ·rcases k.m _ hm with h1|h1
  ·exact(h.oo g hg).1 h1
  ·have:=(h.own.block_lt hg).2;omega
 ·rcases hm with hm|hm
  ·rcases k.f _ hm with h1|h1
   ·exact(h.oo g hg).2 h1
   ·have:=(h.own.block_lt hg).2;omega
  ·exact(h.oo g hg).2 hm
theorem LI.grown(h:LI mp mb hv G c0 w node a kids c W st L acc){x:Vl}{L':Value}(ho:Bp c.F W' (w.heap.size+1+1+1+1) 25 5 L' (A5 acc++[valD x]))(k:W.grownBy W' L.ownBlock)(hf:∀g,L'.ownBlock=some g->L.ownBlock=some g\/W.heap.size<=g)(hx:A7 x=true):
  LI mp mb hv G c0 w node a kids c (W'.setCell ⟨w.heap.size+1+1+1,3,none⟩ L') st L' (acc++[x]):=by
 have aA:=(agS.1 h.sb).1;have aB:∀g,L.ownBlock=some g->w.heap.size+1+1+1+1<=g:=fun g hg=>(h.own.block_lt hg).1;have hws:=h.xb.size;have h1:∀b,b<w.heap.size+3->(W'.setCell ⟨w.heap.size+1+1+1,3,none⟩ L').heap[b]? = W.heap[b]?:=fun b hb=>
  (Af (by omega) 3 _).trans (k.block b (by omega) (fun e=>by have:=aB b e.symm;omega))
 have hMF:∀b,b<W.heap.size->(c.M b\/c.F b)->(W'.setCell ⟨w.heap.size+1+1+1,3,none⟩ L').heap[b]? = W.heap[b]?:=fun b hb hm=>
  (Af (fun e=>by subst e;rcases hm with hm|hm;exact h.so.1 hm;exact h.so.2 hm) 3 _).trans (k.block b hb (fun e=>by rcases hm with hm|hm;exact(h.oo b e.symm).1 hm;exact(h.oo b e.symm).2 hm))
 have hsz:W.heap.size<=(W'.setCell ⟨w.heap.size+1+1+1,3,none⟩ L').heap.size:=(by simpa using k.size);refine⟨⟨(h.xb.mv.own k (fun g hg=>by have:=aB g hg;omega)).set (.inl (by omega)) 3 _,Nat.le_trans hws hsz,(h1 _ (by omega)).trans h.xb.na,(h1 _ (by omega)).trans h.xb.vb,(h1 _ (by omega)).trans h.xb.fc,h.xb.out⟩,?_,h.so,?_,fun g hg=>?_,h.ms.other hsz hMF,fun b hb=>⟨nll (h.g b hb).1 hsz,(h.g b hb).2⟩,h.g0,h.row.mono fun b hb hl=>⟨hb,nll hl hsz,h1 b (by have:=h.g0 b hb;omega)⟩,fun y hy=>?_⟩
 ·rw[Al ((k.block _ aA (fun e=>by have:=aB _ e.symm;omega)).trans h.sb) 3 L'];rfl
 ·rw[N9];refine Bp.keep (show Bp c.F W' _ _ 5 L' (A5 acc++A5 [x]) by simpa[A5] using ho) (fun b hb hm=>Af (fun e=>by
   subst e;rcases hm with hm|hm
   ·exact h.so.2 hm
   ·have:=(ho.block_lt hm).1;omega) 3 _) (by simp)
 ·rcases hf g hg with h2|h2
  ·exact h.oo g h2
  ·exact⟨fun hm=>by have:=h.ms.ok.ml g hm;omega,fun hm=>by have:=h.ms.ok.fl g hm;omega⟩
 ·rcases List.mem_append.1 hy with h2|h2
  ·exact h.chk y h2
  ·rw[List.mem_singleton.1 h2];exact hx
theorem LI.done(h:LI mp mb hv G c0 w node a kids c W st L acc):XB c0 w (c.with fun b=>L.ownBlock=some b) W node #[.int .i64 0,.int .i64 0,.string ⟨#[]⟩,.slice none 0 0,.slice none 0 0] #[.int .i64 0,.int .i64 0,.int .i64 0]/\MS (c.with fun b=>L.ownBlock=some b) W mp mb hv st /\
  ∃aL capL,L = .slice aL acc.length capL/\Ay (c.with fun b=>L.ownBlock=some b).F W (valD (.mk 4 0 ⟨#[]⟩ acc [])) [.int .i64 4,.int .i64 0,.string ⟨#[]⟩,.slice aL acc.length capL,.slice none 0 0]:=by
 refine⟨⟨h.xb.mv.with fun b hb=>by have:=(h.own.block_lt hb).1;omega,h.xb.size,h.xb.na,h.xb.vb,h.xb.fc,fun b h1 h2=>⟨(h.xb.out b h1 h2).1,fun hm=>?_⟩⟩,h.ms.with fun b hb=>⟨(h.own.block_lt hb).2,(h.oo b hb).1⟩,?_⟩
 ·rcases hm with hm|hm
  ·exact(h.xb.out b h1 h2).2 hm
  ·have:=(h.own.block_lt hm).1;omega
 ·obtain⟨aL,capL,hL,hr⟩:=(h.own.wide (G:=(c.with fun b=>L.ownBlock=some b).F) (fun b hb=> .inl hb)).rowAt (fun g hg=> .inr hg);rw[Cq] at hL;exact⟨aL,capL,hL,Ay.val_mk (l:=acc) (ks:=[]) _ _ _ capL _ hr (Ag.nil _)⟩
end
theorem Ru{mp mb hv ex}(hnz:∀n st x y z,ex n st = .err x y z->x≠0)(hx:Jy 206 mp mb hv ex):Jy 228 mp mb hv (Kw ex):=by
 intro G c w st n v hm hG hn bN bO;obtain⟨kk,t,l,k,kids⟩:=n;obtain⟨a,cap,rfl,hr⟩:=hn.open;obtain⟨i0,hi,hz0,hz1,hz2⟩:=info_parts infoVal;rw[Dn] at bN;obtain⟨-,hlen,aN⟩:=bN;obtain⟨h3a,h3b,h3c,h3d,h3e⟩:=Dm w (.cells #[.int .i64 kk,.string t,.int .i64 l,.int .i64 k,.slice a kids.length cap] 43) (.cells #[.int .i64 0,.int .i64 0,.string ⟨#[]⟩,.slice none 0 0,.slice none 0 0] 25) (.cells #[.int .i64 0,.int .i64 0,.int .i64 0] 203);have H0:=XB.start hm.ok #[.int .i64 kk,.string t,.int .i64 l,.int .i64 k,.slice a kids.length cap] #[.int .i64 0,.int .i64 0,.string ⟨#[]⟩,.slice none 0 0,.slice none 0 0] #[.int .i64 0,.int .i64 0,.int .i64 0];have HL0:LI mp mb hv G c w #[.int .i64 kk,.string t,.int .i64 l,.int .i64 k,.slice a kids.length cap] a kids c ((((w.alloc (.cells #[.int .i64 kk,.string t,.int .i64 l,.int .i64 k,.slice a kids.length cap] 43)).alloc (.cells #[.int .i64 0,.int .i64 0,.string ⟨#[]⟩,.slice none 0 0,.slice none 0 0] 25)).alloc (.cells #[.int .i64 0,.int .i64 0,.int .i64 0] 203)).alloc (.cells #[.int .i64 4,.int .i64 0,.string ⟨#[]⟩,.slice none 0 0,.slice none 0 0] 25)) st (.slice none 0 0) []:=by
  generalize ((w.alloc (.cells #[.int .i64 kk,.string t,.int .i64 l,.int .i64 k,.slice a kids.length cap] 43)).alloc (.cells #[.int .i64 0,.int .i64 0,.string ⟨#[]⟩,.slice none 0 0,.slice none 0 0] 25)).alloc (.cells #[.int .i64 0,.int .i64 0,.int .i64 0] 203)=W0 at *;have hb:Below w.heap.size w (W0.alloc (.cells #[.int .i64 4,.int .i64 0,.string ⟨#[]⟩,.slice none 0 0,.slice none 0 0] 25)):=h3d.alloc (by omega) _;have hs0:W0.heap.size=w.heap.size+1+1+1:=(by omega);exact⟨H0.below ((bRf _ W0).alloc (nlr _) _),by rw[<-hs0];exact heap_alloc_new W0 _,⟨fun h=>by have:=hm.ok.ml _ h;omega,fun h=>by have:=hm.ok.fl _ h;omega⟩,Bp.nil _ _ _ _ _,fun g hg=>(by cases hg),hm.below hb,hG.mv (.of_below c hb),fun b h=>(hG b h).1,hr.below hb,fun x h=>(by cases h)⟩
 have HL:=Lq7 HL0;obtain⟨res,aQ⟩:∃res,res=Kw ex (.mk kk t l k kids) st:=⟨_,rfl⟩;rw[<-aQ] at bO |-;have aY:Hid (res=EM.bind (Ep ex (kids.drop 0) []) (fun l'=>Dh (.mk 4 0 ⟨#[]⟩ l' []) l k) st):=Lq7 aQ;have bP:=Lq7 bO;have aR:=Lq7 aN;have Hx:=Lq7 hx;have Hnz:=Lq7 hnz;unfold ptr;go_enter Tryz.func228,Tryz.ntmps228;go_wp2_with fail;generalize World.alloc _ _=W1 at HL |-
 go_loopw [15] (fun i wr=>∃(j:Nat) (acc:List Vl) (L:Value) (c1:Ctx) (aC:St),i = .int .i64 j/\j<=kids.length/\acc.length=j/\Hid (LI mp mb hv G c w #[.int .i64 kk,.string t,.int .i64 l,.int .i64 k,.slice a kids.length cap] a kids c1 wr aC L acc)/\Hid (res=EM.bind (Ep ex (kids.drop j) acc) (fun l'=>Dh (.mk 4 0 ⟨#[]⟩ l' []) l k) aC)) (fun i _=>kids.length-(intOf i).toNat)
 case atStart=>exact⟨0,[],_,c,st,rfl,nlz _,rfl,HL,aY⟩
 case round=>
  obtain⟨j,acc,L,c1,aC,rfl,hj,aS,hl,aZ⟩:=hrel;by_cases hlt:j<kids.length
  ·cases hk:kids[j] with
   | mk xk xt xl xc xs=>
    have bQ:kids[j]? = some (.mk xk xt xl xc xs):=(by rw[lgE hlt,hk]);have aF:kids.drop j = .mk xk xt xl xc xs::kids.drop (j+1):=(by rw[List.drop_eq_getElem_cons hlt,hk]);obtain⟨b,off,a1,c1',hae,hF,hbl,r0,r1,r2,r3,r4,Hcp,hr1⟩:=hl.out.row.nodeK bQ;have hnx:ex (.mk xk xt xl xc xs) aC ≠ .out:=fun h=>bP.out (by rw[aZ.out,aF,Ep,Ds (Ds h)]);have aW:Below wr.heap.size wr (wr.alloc (.cells #[.int .i64 xk,.string xt,.int .i64 xl,.int .i64 xc,.slice a1 xs.length c1'] 43)):=(bRf _ wr).alloc (nlr _) _;have Hc:=Lq7 (Hx.out G c1 _ aC (.mk xk xt xl xc xs) _ (hl.out.ms.below aW) (hl.out.g.mv (.of_below c1 aW)) (A0.mk _ _ _ _ c1' (hr1.below aW)) (Fv aR.out (lgM bQ)) hnx);have bA:=Lq7 (hl.out.below aW);have bB:Hid (res=EM.bind (EM.bind (ex (.mk xk xt xl xc xs)) fun x=>Ep ex (kids.drop (j+1)) (acc++[x])) (fun l'=>Dh (.mk 4 0 ⟨#[]⟩ l' []) l k) aC):=Lq7 (by rw[aZ.out,aF];rfl);unfold ptr at Hc;subst hae;go_wp2_with fail;refine Hc.out.mono ?_;rintro e w2 ⟨c2,bR,hq⟩;cases hxx:ex (.mk xk xt xl xc xs) aC with
    | out=>exact absurd hxx (fun h=>bP.out (by rw[bB.out,Ds (Ds h)]))
    | err x y z=>
     rw[hxx] at hq;obtain rfl:=hq;have aA:Hid (res = .err x y z):=Lq7 (by rw[bB.out,Dg (Dg hxx)]);have hxz:=Hnz.out _ _ _ _ _ hxx;have hxz':(x==0)=false:=(by simpa using hxz);have H1:=Lq7 (bA.out.xb.later bR);unfold badV zeroV Ai
     go_upto_region 7 with fail
     have hb1:Below w2.heap.size w2 ((w2.alloc (.cells #[.int .i64 0,.int .i64 0,.string ⟨#[]⟩,.slice none 0 0,.slice none 0 0] 25)).alloc (.cells #[.int .i64 x,.int .i64 y,.int .i64 z] 203)):=((bRf _ w2).alloc (nlr _) _).alloc (by simp) _;have Hf:=Lq7 (heap_alloc_new (w2.alloc (.cells #[.int .i64 0,.int .i64 0,.string ⟨#[]⟩,.slice none 0 0,.slice none 0 0] 25)) (.cells #[.int .i64 x,.int .i64 y,.int .i64 z] 203));rw[show(w2.alloc (.cells #[.int .i64 0,.int .i64 0,.string ⟨#[]⟩,.slice none 0 0,.slice none 0 0] 25)).heap.size=w2.heap.size+1 by simp] at Hf;have H2:=Lq7 (H1.out.below hb1);have hsz:=H1.out.size;generalize World.alloc (World.alloc _ _) _=W at H2 Hf |-;generalize hfb:w2.heap.size+1=fb at Hf hsz |-;have hsz:w.heap.size+3<=fb:=(by omega);refine A8 (.s 0 (.s 1 (.h 2 (.h 3 .nil)))) 99 (fun W'=>W'.heap[fb]? = some (.cells #[.int .i64 x,.int .i64 y,.int .i64 z] 203 (0,0))) Hf.out ?_;have H5:=Lq7 (H2.out.below ((bRf _ W).drew));have bS:Hid (W.drew.heap[fb]? = some (.cells #[.int .i64 x,.int .i64 y,.int .i64 z] 203 (0,0))):=Lq7 Hf.out;generalize W.drew=Wd at H5 bS |-;refine Ah (.agg #[.int .i64 0,.int .i64 0,.string ⟨#[]⟩,.slice none 0 0,.slice none 0 0]) ?_;refine A2 (.agg #[.int .i64 x,.int .i64 y,.int .i64 z]) ?_;obtain⟨s0,s1,s2,s3,s4,s5,s6,s7,s8,s9,bT⟩:=Aa H5.out.vb;refine Ac rfl (fun Kx hKx=>?_);go_wp2_with fail;have H6:=Lq7 (H5.out.setV (.int .i64 0) (.int .i64 0) (.string ⟨#[]⟩) (.slice none 0 0) (.slice none 0 0));have bC:=Lq7 ((Bu (W:=Wd) (b:=w.heap.size+1) (k:=fb) (by omega) (.int .i64 0) (.int .i64 0) (.string ⟨#[]⟩) (.slice none 0 0) (.slice none 0 0)).trans bS.out);unfold Dq at H6;refine hKx _ _ (fun _=>bC.out) ?_;generalize wsC _ _ _=W6 at H6 bC |-;(try simp only[gX,aP]);obtain⟨d0,d1,d2,d3,d4,d5,d6⟩:=Aj H6.out.fc;refine Ac rfl (fun Ky hKy=>?_);go_wp2_with fail;have H7:=Lq7 (H6.out.setF (.int .i64 x) (.int .i64 y) (.int .i64 z));unfold Cb at H7;refine hKy _ _ (fun _=>((((Af (by omega) 2 _).trans (Af (by omega) 1 _)).trans (Af (by omega) 0 _)).trans bC.out)) ?_;generalize wsC _ _ _=W7 at H7 |-;refine Ao ?_;(try simp only[gX,aP]);obtain⟨s0,s1,s2,s3,s4,s5,s6,s7,s8,s9,bT⟩:=Aa H7.out.vb;obtain⟨d0,d1,d2,d3,d4,d5,d6⟩:=Aj H7.out.fc;go_wp2_with fail;refine bodyPost_ret (v:=badV x y z) (by simp[badV,zeroV,Ai,results,Tryz.results228,go_sem,s1,s2,s3,s4,s5,d1,d2,d3]) rfl ?_;rw[aA.out];exact⟨_,H7.out.mv,rfl⟩
    | ok x st2=>
     rw[hxx] at hq;subst aS;obtain⟨bD,v2,rfl,cs,rfl,aU,aI⟩:=hq;obtain⟨yk,yn,ys,yl,yks⟩:=x;obtain⟨aL,capL,hL,-⟩:=(bA.out.own.wide (G:=fun _=>True) (fun _ _=>trivial)).rowAt (fun _ _=>trivial);rw[Cq] at hL;subst hL;have bE:=bA.out.later bR bD;have bF:Ay (c2.with c1.F).F w2 (valD (.mk yk yn ys yl yks)) cs:=aU.wider (fun b h _=> .inl h);obtain⟨b1,e1,b2,e2,rfl,-,-⟩:=aU.val;have aD:Hid (res=EM.bind (Ep ex (kids.drop (acc.length+1)) (acc++[.mk yk yn ys yl yks])) (fun l'=>Dh (.mk 4 0 ⟨#[]⟩ l' []) l k) st2):=Lq7 (by rw[bB.out];simp[EM.bind,hxx]);have bU:Below w2.heap.size w2 (((w2.alloc (.cells #[.int .i64 yk,.int .i64 yn,.string ys,.slice b1 yl.length e1,.slice b2 yks.length e2] 25)).alloc (.cells #[.int .i64 0,.int .i64 0,.int .i64 0] 203)).alloc (.cells #[.int .i64 yk,.int .i64 yn,.string ys,.slice b1 yl.length e1,.slice b2 yks.length e2] 25)):=(((bRf _ w2).alloc (nlr _) _).alloc (by simp) _).alloc (by simp;omega) _;have aM:=Lq7 (bE.below bU);have aG:=G5 ((w2.alloc (.cells #[.int .i64 yk,.int .i64 yn,.string ys,.slice b1 yl.length e1,.slice b2 yks.length e2] 25)).alloc (.cells #[.int .i64 0,.int .i64 0,.int .i64 0] 203)) [.int .i64 yk,.int .i64 yn,.string ys,.slice b1 yl.length e1,.slice b2 yks.length e2] 25;rw[show((w2.alloc (.cells #[.int .i64 yk,.int .i64 yn,.string ys,.slice b1 yl.length e1,.slice b2 yks.length e2] 25)).alloc (.cells #[.int .i64 0,.int .i64 0,.int .i64 0] 203)).heap.size=w2.heap.size+1+1 by simp] at aG;have aV:=Lq7 aG;have aJ:=Lq7 ((bF.below bU).wider (G:=fun b=>(c2.with c1.F).F b/\(Value.slice aL acc.length capL).ownBlock≠some b) (fun b h _=>⟨h,fun e=>(bE.oo b e).2 h⟩));have bG:=Lq7 aI;have bH:=Lq7 bE.sb;obtain⟨q0,q1,q2,q3,q4,q5,q6,q7,q8,q9,bV⟩:=Aa bH.out;have q01:w.heap.size+1+1<w2.heap.size:=(by omega);have q02:w.heap.size+1<w2.heap.size:=(by omega);unfold Ai
     go_wp2_with (at_builtin;refine Db rfl _ _ 22 rfl (w.heap.size+1+1+1+1) 25 i0 _ 5 80 Tryz.underlying22 hi hz0 hz1 hz2 rfl (by decide) (.slice aL acc.length capL) (c2.with c1.F).F (A5 acc) rfl aM.out.own ⟨w2.heap.size+1+1,0,none⟩ 1 (valD (.mk yk yn ys yl yks)) [.int .i64 yk,.int .i64 yn,.string ys,.slice b1 yl.length e1,.slice b2 yks.length e2] rfl rfl aV.out ?_ aJ.out ?_ ?_ ?_ ?_)
     ·simp[Value.oneCell']
     ·rw[Cq];unfold maxLen;omega
     ·rw[Cq];omega
     ·have:=(agS.1 aM.out.sb).1;omega
     intro v3 w3 aH aB aE;obtain⟨a3,cap3,bW,-⟩:=(aH.wide (G:=fun _=>True) (fun _ _=>trivial)).rowAt (fun _ _=>trivial);rw[lnA,Cq,List.length_singleton] at bW;subst bW;have Hl4:=Lq7 (aM.out.grown aH aB (fun g hg=>(aE g hg).imp id (fun h=>by simpa using h)) bG.out);have bI:=Lq7 ((aB.block _ (agS.1 aM.out.sb).1 (fun e=>by have:=(aM.out.own.block_lt e.symm).1;omega)).trans aM.out.sb);obtain⟨q0,q1,q2,q3,q4,q5,q6,q7,q8,q9,bV⟩:=Aa bI.out;go_wp2_with fail;go_roundw
     case rel=>exact⟨acc.length+1,acc++[.mk yk yn ys yl yks],_,_,st2,by go_num,by omega,by simp,Hl4,aD⟩
     case measure=>simp only[intOf];omega
  ·subst aS;have hd0:kids.drop acc.length=[]:=List.drop_eq_nil_of_le (by omega);have aD:Hid (res=Dh (.mk 4 0 ⟨#[]⟩ acc []) l k aC):=Lq7 (by rw[aZ.out,hd0];rfl);obtain⟨bX,bJ,aL,capL,hL,bL⟩:=hl.out.done;have bY:=bJ.ok;have bH:=Lq7 hl.out.sb;have hsv:A4 (.mk 4 0 ⟨#[]⟩ acc []):=by
    rw[A4];exact⟨⟨by decide,rfl⟩,by omega,by simp,by simp,Oo fun x hx=>Hu (hl.out.chk x hx)⟩
   generalize hc2:c1.with (fun b=>L.ownBlock=some b)=c2 at bX bJ bL bY;subst hL;have Hm:=Lq7 (Ol _ hsv c2.F _ l k wr bY.fl bL);have H1:=Lq7 bX;have Hm1:=Lq7 bJ;have Hag:=Lq7 bL;obtain⟨r0,r1,r2,r3,r4,r5,r6,r7,r8,r9,r10⟩:=Aa H1.out.na;obtain⟨q0,q1,q2,q3,q4,q5,q6,q7,q8,q9,bV⟩:=Aa bH.out;go_wp2_with fail;refine Hm.out.mono ?_;rintro e w2 ⟨bM,rfl⟩;have H3:=Lq7 (H1.out.below bM);have Hm3:=Lq7 (Hm1.out.below bM);have aJ:=Lq7 (Hag.out.below bM);obtain⟨s0,s1,s2,s3,s4,s5,s6,s7,s8,s9,bT⟩:=Aa H3.out.vb;obtain⟨d0,d1,d2,d3,d4,d5,d6⟩:=Aj H3.out.fc;by_cases aI:A7 (.mk 4 0 ⟨#[]⟩ acc [])=true
   ·rw[if_pos aI];have bG:=Lq7 aI;have aA:Hid (res = .ok (.mk 4 0 ⟨#[]⟩ acc []) aC):=Lq7 (by rw[aD.out];unfold Dh;rw[if_pos aI];rfl);unfold Ai;go_wp2_with fail;refine bodyPost_ret (v:=.tuple #[.agg #[.int .i64 4,.int .i64 0,.string ⟨#[]⟩,.slice aL acc.length capL,.slice none 0 0],Ai 0 0 0]) (by simp[Ai,results,Tryz.results228,go_sem,s1,s2,s3,s4,s5,d1,d2,d3]) rfl ?_;have H4:=H3.out.setV (.int .i64 4) (.int .i64 0) (.string ⟨#[]⟩) (.slice aL acc.length capL) (.slice none 0 0);have Hm4:=H3.out.msV Hm3.out (.int .i64 4) (.int .i64 0) (.string ⟨#[]⟩) (.slice aL acc.length capL) (.slice none 0 0);have Ha4:=H3.out.aggV aJ.out (.int .i64 4) (.int .i64 0) (.string ⟨#[]⟩) (.slice aL acc.length capL) (.slice none 0 0);rw[aA.out];exact⟨c2,(H4.setF (.int .i64 0) (.int .i64 0) (.int .i64 0)).mv,H4.msF Hm4 (.int .i64 0) (.int .i64 0) (.int .i64 0),_,rfl,[_,_,_,_,_],rfl,H4.aggF Ha4 (.int .i64 0) (.int .i64 0) (.int .i64 0),bG.out⟩
   ·rw[if_neg aI];have aA:Hid (res = .err 6 l k):=Lq7 (by rw[aD.out];unfold Dh;rw[if_neg aI];rfl);unfold badV zeroV Ai;go_wp2_with fail;refine bodyPost_ret (v:=badV 6 l k) (by simp[badV,zeroV,Ai,results,Tryz.results228,go_sem,s1,s2,s3,s4,s5,d1,d2,d3]) rfl ?_;rw[aA.out];exact⟨c2,((H3.out.setV (.int .i64 0) (.int .i64 0) (.string ⟨#[]⟩) (.slice none 0 0) (.slice none 0 0)).setF (.int .i64 6) (.int .i64 l) (.int .i64 k)).mv,rfl⟩
def ENz{α:Type}(m:EM α):Prop:=∀st x y z,m st = .err x y z->x≠0
theorem ENz.bind{α β}{m:EM α}{g:α->EM β}(hm:ENz m)(hg:∀a,ENz (g a)):ENz (EM.bind m g):=by
 intro st x y z h;cases hms:m st with
 | ok a st'=>rw[Cf hms] at h;exact hg _ _ _ _ _ h
 | err a b c=>rw[Dg hms] at h;cases h;exact hm _ _ _ _ hms
 | out=>rw[Ds hms] at h;cases h
theorem ENz.pure{α}(x:α):ENz (EM.pure x):=fun _ _ _ _ h=>by cases h
theorem ENz.out{α}:ENz (eOut:EM α):=fun _ _ _ _ h=>by cases h
theorem ENz.fail{α e}(he:e≠0)(l c):ENz (eFail e l c:EM α):=fun _ _ _ _ h=>by cases h;exact he
theorem ENz.step(l c):ENz (Da l c):=fun st x y z h=>by
 unfold Da at h;split at h
 ·cases h;decide
 ·cases h
theorem ENz.put(s v l c):ENz (F4 s v l c):=fun st x y z h=>by
 unfold F4 at h;split at h
 ·cases h;decide
 ·cases h
theorem ENz.made(v l c):ENz (Dh v l c):=by
 unfold Dh;split
 ·exact .pure _
 ·exact .fail (by decide) _ _
theorem ENz.items{ex}(hx:∀n,ENz (ex n)):∀(l:List Nd) (acc:List Vl),ENz (Ep ex l acc)
 | [],acc=> .pure acc
 | n::t,acc=> .bind (hx n) fun x=>ENz.items hx t (acc++[x])
theorem ENz.expr{ans ex}(hx:∀n,ENz (ex n))(n):ENz (La ans ex n):=by
 refine .bind (.step _ _) fun _=>?_;intro st x y z h;split at h
 ·split at h
  ·cases h
  ·dsimp only at h
   split at h
   ·cases h
   ·cases h;decide
 ·split at h
  ·split at h<;>cases h
  ·split at h
   ·exact ENz.bind (ENz.items hx n.kids []) (fun l=>ENz.made _ _ _) st x y z h
   ·split at h
    ·exact ENz.made _ _ _ st x y z h
    ·split at h
     ·cases h
     ·cases h;decide
theorem ENz.exprs{ans}:∀(f:Nat) (n:Nd),ENz (Eg ans f n)
 | 0,_=> .out
 | f+1,n=>ENz.expr (ENz.exprs f) n
theorem K0{mp mb hv}:∀f,Jy 206 mp mb hv (Eg hv.ans f)
 | 0=>fun _ _ _ _ _ _ _ _ _ _ hne=>absurd rfl hne
 | f+1=>Rt (Ru (ENz.exprs f) (K0 f))
def C0{α:Type}(m:EM α):Prop:=∀st x st',m st = .ok x st'->st'.names=st.names
theorem C0.bind{α β}{m:EM α}{g:α->EM β}(hm:C0 m)(hg:∀a,C0 (g a)):C0 (EM.bind m g):=by
 intro st x st' h;cases hms:m st with
 | ok a st1=>rw[Cf hms] at h;exact(hg _ _ _ _ h).trans (hm _ _ _ hms)
 | err a b c=>rw[Dg hms] at h;cases h
 | out=>rw[Ds hms] at h;cases h
theorem C0.pure{α}(x:α):C0 (EM.pure x):=fun _ _ _ h=>by cases h;rfl
theorem C0.fail{α}(e l c):C0 (eFail e l c:EM α):=fun _ _ _ h=>by cases h
theorem C0.out{α}:C0 (eOut:EM α):=fun _ _ _ h=>by cases h
theorem C0.step(l c):C0 (Da l c):=fun st x st' h=>by
 unfold Da at h;split at h
 ·cases h
 ·cases h;rfl
theorem C0.made(v l c):C0 (Dh v l c):=by
 unfold Dh;split
 ·exact .pure _
 ·exact .fail _ _ _
theorem C0.items{ex}(hx:∀n,C0 (ex n)):∀(l:List Nd) (acc:List Vl),C0 (Ep ex l acc)
 | [],acc=> .pure acc
 | n::t,acc=> .bind (hx n) fun x=>C0.items hx t (acc++[x])
theorem C0.expr(ans){ex}(hx:∀n,C0 (ex n))(n):C0 (La ans ex n):=by
 refine .bind (.step _ _) fun _=>?_;intro st x st' h;split at h
 ·split at h
  ·cases h;rfl
  ·dsimp only at h
   split at h
   ·cases h;rfl
   ·cases h
 ·split at h
  ·split at h
   ·cases h;rfl
   ·cases h
  ·split at h
   ·exact C0.bind (C0.items hx n.kids []) (fun l=>C0.made _ _ _) st x st' h
   ·split at h
    ·exact C0.made _ _ _ st x st' h
    ·split at h<;>cases h
theorem C0.exprs(ans):∀(f:Nat) (n:Nd),C0 (Eg ans f n)
 | 0,_=> .out
 | f+1,n=>C0.expr ans (C0.exprs ans f) n
def Fm{α:Type}(m:EM α):Prop:=∀st,m st ≠ .out
theorem Fm.bind{α β}{m:EM α}{g:α->EM β}(hm:Fm m)(hg:∀a,Fm (g a)):Fm (EM.bind m g):=by
 intro st;cases hms:m st with
 | ok a st1=>rw[Cf hms];exact hg _ _
 | err a b c=>rw[Dg hms];intro h;cases h
 | out=>exact absurd hms (hm st)
theorem Fm.pure{α}(x:α):Fm (EM.pure x):=fun _ h=>by cases h
theorem Fm.fail{α}(e l c):Fm (eFail e l c:EM α):=fun _ h=>by cases h
theorem Fm.step(l c):Fm (Da l c):=fun st h=>by
 unfold Da at h;split at h<;>cases h
theorem Fm.made(v l c):Fm (Dh v l c):=by
 unfold Dh;split
 ·exact .pure _
 ·exact .fail _ _ _
theorem Fm.items{ex}:∀(l:List Nd) (acc:List Vl),(∀n∈l,Fm (ex n))->Fm (Ep ex l acc)
 | [],acc,_=> .pure acc
 | n::t,acc,hx=> .bind (hx n (lmS ..)) fun x=>Fm.items t (acc++[x]) fun n hn=>hx n (lmO _ hn)
mutual
def ndH:Nd->Nat
 | .mk _ _ _ _ l=>ndHs l+2
def ndHs:List Nd->Nat
 | []=>0
 | x::t=>ndH x+ndHs t
end
theorem ndH_mem:∀{l:List Nd} {x:Nd},x∈l->ndH x<=ndHs l
 | _::t,_,.head _=>by rw[ndHs];omega
 | y::t,x,.tail _ h=>by have:=ndH_mem h;rw[ndHs];omega
theorem Ib(n):2<=ndH n:=by obtain⟨k,t,l,c,kids⟩:=n;rw[ndH];omega
theorem ndH_kid{n}{i:Nat}{x}(h:n.kids[i]? = some x):ndH x+2<=ndH n:=by
 obtain⟨k,t,l,c,kids⟩:=n;have:=ndH_mem (lgM (show kids[i]? = some x from h));rw[ndH.eq_1 k t l c kids];omega
theorem K5(l c):natOf (l++[c])=10*natOf l+(c.toNat - 48):=by
 unfold natOf;rw[List.foldl_append];rfl
theorem Ot{c}(h:A9 c=true):UInt8.ofNat (48+(c.toNat - 48))=c:=by
 obtain⟨h1,h2⟩:=E9 h;rw[show 48+(c.toNat - 48)=c.toNat by omega];exact UInt8.ofNat_toNat
theorem dec_nat(l:List UInt8):l.reverse≠[]->(∀c∈l.reverse,A9 c=true)->¬(1<l.reverse.length/\l.reverse.head? = some 48)->Lib.decDigits (natOf l.reverse)=l.reverse:=by
 induction l with
 | nil=>intro h;exact absurd rfl h
 | cons c t ih=>
  intro _ hd hz;rw[List.reverse_cons] at hd hz |-;have hc:=hd c (by simp);obtain⟨h1,h2⟩:=E9 hc;rw[K5];by_cases ht:t=[]
  ·subst ht;rw[show natOf ([]:List UInt8).reverse=0 from rfl,Lib.decDigits_one (by omega),Nat.mul_zero,Nat.zero_add,Ot hc];rfl
  ·have aA:t.reverse≠[]:=(by simpa using ht);have hlen:1<(t.reverse++[c]).length:=by
    rw[lnA,List.length_singleton];have:=List.length_pos_iff.2 aA;omega
   have hh:(t.reverse++[c]).head? = t.reverse.head?:=by
    cases hr:t.reverse with
    | nil=>exact absurd hr aA
    | cons x xs=>rfl
   have hi:=ih aA (fun x hx=>hd x (List.mem_append_left _ hx)) (fun h=>hz ⟨hlen,by rw[hh];exact h.2⟩);have hpos:natOf t.reverse≠0:=fun h0=>by
    rw[h0,Lib.decDigits_one (by omega)] at hi;exact hz ⟨hlen,by rw[hh,<-hi];rfl⟩
   rw[Lib.decDigits,dif_neg (by omega),show(10*natOf t.reverse+(c.toNat - 48)) / 10=natOf t.reverse by omega,show(10*natOf t.reverse+(c.toNat - 48)) % 10=c.toNat - 48 by omega,hi,Ot hc]
theorem P1{l}(h0:l≠[])(hd:∀c∈l,A9 c=true)(hz:¬(1<l.length/\l.head? = some 48)):Lib.itoa (natOf l:Int)=l:=by
 unfold Lib.itoa;rw[if_neg (by omega),Int.toNat_natCast];have:=dec_nat l.reverse;rw[List.reverse_reverse] at this;exact this h0 hd hz
theorem Ou{s}(h:Mu s)(hs:s.size<=65536):F3 s=some (natOf s.data.toList:Int):=by
 obtain⟨h0,hd,hz,hm⟩:=h;have hp:Lib.parseIntB 64 s.data.toList = .ok (natOf s.data.toList:Int):=by
  unfold Lib.parseIntB;cases hl:s.data.toList with
  | nil=>exact absurd hl h0
  | cons c r=>
   obtain⟨h1,h2⟩:=E9 (hd c (by rw[hl];exact lmS ..));rw[hl] at hd hm
   dsimp only
   rw[if_neg (by omega)];rcases parseUint_digits (l:=c::r) (by simp) hd with⟨h3,h4⟩|⟨h3,h4⟩
   ·rw[h4]
    dsimp only
    rw[if_neg (by omega),if_neg (by omega),if_neg (by omega)]
   ·omega
 unfold F3;rw[hp]
 dsimp only
 rw[if_pos ⟨by unfold inR;simp only[Bool.and_eq_true,decide_eq_true_eq];omega,hs,P1 h0 hd hz⟩]
theorem numOf_ok{s}(h:Mu s)(hs:s.size<=65536):F3 s≠none:=by
 rw[Ou h hs];exact fun h=>(by cases h)
mutual
def ndOp:Nd->Prop
 | .mk k t _ _ l=>t.size<=65536/\l.length<=65540/\((k=10->Mu t)/\¬(k=13\/k=14\/k=16))/\(k=6->∃ps b,l=ps++[b]/\∀x∈ps,1<=x.kids.length/\x.kids.length<=2)/\ndOps l
def ndOps:List Nd->Prop
 | []=>True
 | x::t=>ndOp x/\ndOps t
end
theorem ndOps_iff:∀{l:List Nd},ndOps l↔∀x∈l,ndOp x
 | []=>by simp[ndOps]
 | x::t=>by rw[ndOps,ndOps_iff,List.forall_mem_cons]
mutual
def ndKs:Nd->Prop
 | .mk k _ _ _ l=>¬(k=13\/k=14\/k=16)/\ndKss l
def ndKss:List Nd->Prop
 | []=>True
 | x::t=>ndKs x/\ndKss t
end
mutual
theorem ndOp_of:∀{n:Nd},If 65536 65540 n->ndKs n->ndOp n
 | .mk k t l c kids,h,hk=>by
  rw[If] at h;rw[ndKs] at hk;rw[ndOp];exact⟨h.1,h.2.1,⟨h.2.2.1,hk.1⟩,h.2.2.2.1,ndOps_of h.2.2.2.2 hk.2⟩
theorem ndOps_of:∀{l:List Nd},Ed 65536 65540 l->ndKss l->ndOps l
 | [],_,_=>by rw[ndOps];trivial
 | x::t,h,hk=>by
  rw[Ed] at h;rw[ndKss] at hk;rw[ndOps];exact⟨ndOp_of h.1 hk.1,ndOps_of h.2 hk.2⟩
end
section
variable {ans:Ans}
theorem P2{n x:Nd}{i:Nat}(h:ndOp n)(hx:n.kids[i]? = some x):ndOp x:=by
 obtain⟨k,t,l,c,kids⟩:=n;rw[ndOp] at h;exact ndOps_iff.1 h.2.2.2.2 x (lgM hx)
theorem exprs_says:∀(f:Nat) (n:Nd),ndOp n->ndH n<=f->Fm (Eg ans f n)
 | 0,n,_,hh=>by have:=Ib n;omega
 | f+1,n,hn,hh=>by
  have hf:1<=f:=(by have:=Ib n;omega);obtain⟨g,rfl⟩:∃g,f=g+1:=⟨f - 1,by omega⟩;have hm:∀x∈n.kids,Fm (Eg ans (g+1) x):=fun x hx=>by
   obtain⟨i,hi⟩:=List.getElem?_of_mem hx;exact exprs_says (g+1) x (P2 hn hi) (by have:=ndH_kid hi;omega)
  show Fm (La ans (Eg ans (g+1)) n);refine .bind (.step _ _) fun _ st h=>?_;obtain⟨k,t,l,c,kids⟩:=n;rw[ndOp] at hn;split at h
  ·split at h
   ·cases h
   ·(try dsimp only at h);split at h<;>cases h
  ·split at h
   ·rename_i hk10
    split at h
    ·cases h
    ·rename_i hno
     exact numOf_ok (hn.2.2.1.1 hk10) hn.1 hno
   ·split at h
    ·exact Fm.bind (Fm.items kids [] hm) (fun l=>Fm.made _ _ _) st h
    ·split at h
     ·exact Fm.made _ _ _ st h
     ·split at h
      ·rename_i hk;exact hn.2.2.1.2 hk
      ·cases h
end
def E8(n:Nd):Nd:=.mk 2 (bs [120]) n.ln n.cl [n]
def workL(ans:Ans)(n:Nd):Except (Int×Int×Int) Vl:=match eRun ans (ndH n+1) [E8 n] 20000 with
 | .ok _ st=> .ok ((Ej st.names (bs [120])).getD vZero)
 | .err e l c=> .error (e,l,c)
 | .out=> .ok vZero
theorem x_free:Cr (bs [120])=none:=by decide
theorem run_one{ans n}(hn:ndOp n):eRun ans (ndH n+1) [E8 n] 20000 ≠ .out /\
  ∀st,eRun ans (ndH n+1) [E8 n] 20000 = .ok () st->∃v,st.names=[(bs [120],v)]:=by
 have hs:=exprs_says (ans:=ans) (ndH n) n hn (nlr _);have hkp:=C0.exprs ans (ndH n) n;have h0:eRun ans (ndH n+1) [E8 n] 20000=EM.bind (EM.bind (Eg ans (ndH n) n) fun v=>F4 (bs [120]) v n.ln n.cl) (fun _=>EM.pure ()) ⟨[],19999,[]⟩:=rfl;rw[h0];cases hx:Eg ans (ndH n) n ⟨[],19999,[]⟩ with
 | out=>exact absurd hx (hs _)
 | err a b c=>
  rw[Dg (Dg hx)];exact⟨fun h=>(by cases h),fun st h=>(by cases h)⟩
 | ok v st=>
  have hp:F4 (bs [120]) v n.ln n.cl st = .ok () { st with names:=putN st.names (bs [120]) v}:=by
   unfold F4;rw[x_free];rfl
  rw[Cf ((Cf hx).trans hp)];refine⟨fun h=>(by cases h),fun st' h=>?_⟩;cases h;refine⟨v,?_⟩;show putN st.names (bs [120]) v=_;rw[hkp _ _ _ hx];rfl
def SDoes(f mp mb:Nat)(hv:Fl)(sm:Nd->EM Unit):Prop:=∀(G:Nat->Prop) (c:Ctx) (w:World) (st:St) (n:Nd) (v:Value),MS c w mp mb hv st->GOk G c w->A0 G w n v->Dn n->sm n st ≠ .out ->
 Calls Tryz.prog f #[ptr mp,v] w (EP mp mb hv Mc Ai c (sm n st) w)
structure XF(c0:Ctx)(w:World)(c:Ctx)(W:World)(b:Nat)(f:Array Value):Prop where
 mv:Mv c0 w c W
 fc:W.heap[b]? = some (.cells f 203 (0,0))
 new:w.heap.size<=b
 out:¬c.M b/\¬c.F b
section
variable {c0 c c':Ctx} {w W W':World} {b:Nat} {f:Array Value}
theorem XF.later(h:XF c0 w c W b f)(k:Mv c W c' W'):XF c0 w c' W' b f:=by
 have hl:=(agS.1 h.fc).1;refine⟨h.mv.trans k,(k.block b hl h.out.1).trans h.fc,h.new,fun hm=>?_,fun hm=>?_⟩
 ·rcases k.m b hm with h3|h3
  ·exact h.out.1 h3
  ·omega
 ·rcases k.f b hm with h3|h3
  ·exact h.out.2 h3
  ·omega
theorem XF.below(h:XF c0 w c W b f)(k:Below W.heap.size W W'):XF c0 w c W' b f:=h.later (.of_below c k)
theorem XF.setF{x0 x1 x2:Value}(h:XF c0 w c W b #[x0,x1,x2])(v0 v1 v2:Value):XF c0 w c (Cb W b v0 v1 v2) b #[v0,v1,v2]:=by
 unfold Cb;refine⟨((h.mv.set (.inl h.new) 0 _).set (.inl h.new) 1 _).set (.inl h.new) 2 _,?_,h.new,h.out⟩;rw[Al (Al (Al h.fc 0 v0) 1 v1) 2 v2];rfl
end
theorem Py{mp mb hv sm}(hnz:∀n,ENz (sm n))(hs:SDoes 187 mp mb hv sm)(G c w st l a cap)(hm:MS c w mp mb hv st)(hG:GOk G c w)(hr:Ag G w a (Az l))(hsn:smallNs l)(hlen:l.length<=1000000)(hne:Ew sm l st ≠ .out):
  Calls Tryz.prog 161 #[ptr mp,.slice a l.length cap] w (EP mp mb hv Mc Ai c (Ew sm l st) w):=by
 have aH:Below w.heap.size w (w.alloc (.cells #[.int .i64 0,.int .i64 0,.int .i64 0] 203)):=(bRf _ w).alloc (nlr _) _;have H0:Hid (XF c w c (w.alloc (.cells #[.int .i64 0,.int .i64 0,.int .i64 0] 203)) w.heap.size #[.int .i64 0,.int .i64 0,.int .i64 0]):=Lq7 ⟨.of_below c aH,heap_alloc_new w _,nlr _,fun h=>by have:=hm.ok.ml _ h;omega,fun h=>by have:=hm.ok.fl _ h;omega⟩;have aU:Hid (MS c (w.alloc (.cells #[.int .i64 0,.int .i64 0,.int .i64 0] 203)) mp mb hv st/\GOk G c (w.alloc (.cells #[.int .i64 0,.int .i64 0,.int .i64 0] 203))/\Ag G (w.alloc (.cells #[.int .i64 0,.int .i64 0,.int .i64 0] 203)) a (Az l)):=Lq7 ⟨hm.below aH,hG.mv (.of_below c aH),hr.below aH⟩;obtain⟨res,aF⟩:∃res,res=Ew sm l st:=⟨_,rfl⟩;rw[<-aF] at hne |-;have aJ:Hid (res=Ew sm (l.drop 0) st):=Lq7 aF;have aV:=Lq7 hne;have Hs:=Lq7 hs;have Hnz:=Lq7 hnz;have Hsn:=Lq7 hsn;unfold ptr;go_enter Tryz.func161,Tryz.ntmps161;go_wp2_with fail;generalize World.alloc _ _=W1 at H0 aU |-
 go_loopw [10] (fun i wr=>∃(j:Nat) (c1:Ctx) (aA:St),i = .int .i64 j/\j<=l.length/\Hid (XF c w c1 wr w.heap.size #[.int .i64 0,.int .i64 0,.int .i64 0])/\Hid (MS c1 wr mp mb hv aA/\GOk G c1 wr/\Ag G wr a (Az l))/\Hid (res=Ew sm (l.drop j) aA)) (fun i _=>l.length-(intOf i).toNat)
 case atStart=>exact⟨0,c,st,rfl,nlz _,H0,aU,aJ⟩
 case round=>
  obtain⟨j,c1,aA,rfl,hj,hf,aD,aM⟩:=hrel;by_cases hlt:j<l.length
  ·cases hk:l[j] with
   | mk xk xt xl xc xs=>
    have aW:l[j]? = some (.mk xk xt xl xc xs):=(by rw[lgE hlt,hk]);have aB:l.drop j = .mk xk xt xl xc xs::l.drop (j+1):=(by rw[List.drop_eq_getElem_cons hlt,hk]);obtain⟨b,off,a1,c1',hae,-,hbl,r0,r1,r2,r3,r4,Hcp,hr1⟩:=aD.out.2.2.nodeK aW;have hnx:sm (.mk xk xt xl xc xs) aA ≠ .out:=fun h=>aV.out (by rw[aM.out,aB,Ew,Ds h]);have aE:Below wr.heap.size wr (wr.alloc (.cells #[.int .i64 xk,.string xt,.int .i64 xl,.int .i64 xc,.slice a1 xs.length c1'] 43)):=(bRf _ wr).alloc (nlr _) _;have Hc:=Lq7 (Hs.out G c1 _ aA (.mk xk xt xl xc xs) _ (aD.out.1.below aE) (aD.out.2.1.mv (.of_below c1 aE)) (A0.mk _ _ _ _ c1' (hr1.below aE)) (Fv Hsn.out (lgM aW)) hnx);have Hf1:=Lq7 (hf.out.below aE);have aG:Hid (GOk G c1 (wr.alloc (.cells #[.int .i64 xk,.string xt,.int .i64 xl,.int .i64 xc,.slice a1 xs.length c1'] 43))/\Ag G (wr.alloc (.cells #[.int .i64 xk,.string xt,.int .i64 xl,.int .i64 xc,.slice a1 xs.length c1'] 43)) a (Az l)):=Lq7 ⟨aD.out.2.1.mv (.of_below c1 aE),aD.out.2.2.below aE⟩;have aN:Hid (res=EM.bind (sm (.mk xk xt xl xc xs)) (fun _=>Ew sm (l.drop (j+1))) aA):=Lq7 (by rw[aM.out,aB];rfl);unfold ptr at Hc;subst hae;go_wp2_with fail;refine Hc.out.mono ?_;rintro e w2 ⟨c2,aQ,hq⟩;have H2:=Lq7 (Hf1.out.later aQ);obtain⟨d0,d1,d2,d3,d4,d5,d6⟩:=Aj H2.out.fc;cases hxx:sm (.mk xk xt xl xc xs) aA with
    | out=>exact absurd hxx (fun h=>aV.out (by rw[aN.out,Ds h]))
    | err x y z=>
     rw[hxx] at hq;obtain rfl:=hq;have aC:Hid (res = .err x y z):=Lq7 (by rw[aN.out,Dg hxx]);have hxz:=Hnz.out _ _ _ _ _ hxx;have hxz':(x==0)=false:=(by simpa using hxz);unfold Ai;go_wp2_with fail;refine bodyPost_ret (v:=Ai x y z) (by simp[Ai,results,Tryz.results161,go_sem,d0,d1,d2,d3]) rfl ?_;rw[aC.out];exact⟨c2,((H2.out.setF (.int .i64 x) (.int .i64 y) (.int .i64 z)).below ((bRf _ _).alloc (nlr _) _)).mv,rfl⟩
    | ok u st2=>
     rw[hxx] at hq;obtain⟨aR,v2,rfl,hv2⟩:=hq;obtain rfl:v2=Ai 0 0 0:=hv2;have aS:Hid (res=Ew sm (l.drop (j+1)) st2):=Lq7 (by rw[aN.out,Cf hxx]);have aI:Below w2.heap.size w2 (w2.alloc (.cells #[.int .i64 0,.int .i64 0,.int .i64 0] 203)):=(bRf _ w2).alloc (nlr _) _;have H3:=Lq7 (H2.out.below aI);have Hm3:=Lq7 (And.intro (aR.below aI) (And.intro ((aG.out.1.mv aQ).mv (.of_below c2 aI)) ((aG.out.2.gmv aG.out.1 aQ).below aI)));unfold Ai;go_wp2_with fail;go_roundw
     case rel=>exact⟨j+1,c2,st2,by go_num,by omega,H3,Hm3,aS⟩
     case measure=>simp only[intOf];omega
  ·have hd0:l.drop j=[]:=List.drop_eq_nil_of_le (by omega);have aC:Hid (res = .ok () aA):=Lq7 (by rw[aM.out,hd0];rfl);have H1:=Lq7 hf.out;have aG:=Lq7 aD.out.1;obtain⟨d0,d1,d2,d3,d4,d5,d6⟩:=Aj H1.out.fc;go_wp2_with fail;refine bodyPost_ret (v:=Ai 0 0 0) (by simp[Ai,results,Tryz.results161,go_sem,d1,d2,d3]) rfl ?_;rw[aC.out];exact⟨c1,(H1.out.setF (.int .i64 0) (.int .i64 0) (.int .i64 0)).mv,aG.out.setO H1.out.out (.int .i64 0) (.int .i64 0) (.int .i64 0),_,rfl,rfl⟩
structure XS(c0:Ctx)(w:World)(c:Ctx)(W:World)(n f:Array Value):Prop where
 fx:XF c0 w c W (w.heap.size+1) f
 na:W.heap[w.heap.size]? = some (.cells n 43 (0,0))
 no:¬c.M w.heap.size/\¬c.F w.heap.size
section
variable {c0 c c':Ctx} {w W W':World} {n f:Array Value}
theorem XS.start(h:c0.Ok w)(n f:Array Value):XS c0 w c0 ((w.alloc (.cells n 43)).alloc (.cells f 203)) n f:=by
 have hb:Below w.heap.size w ((w.alloc (.cells n 43)).alloc (.cells f 203)):=((bRf _ w).alloc (nlr _) _).alloc (by simp) _;have h1:=heap_alloc_new (w.alloc (.cells n 43)) (.cells f 203);rw[show(w.alloc (.cells n 43)).heap.size=w.heap.size+1 by simp] at h1;exact⟨⟨.of_below c0 hb,h1,by omega,fun h2=>by have:=h.ml _ h2;omega,fun h2=>by have:=h.fl _ h2;omega⟩,(Below.heap_alloc _ _ _ (by simp)).trans (heap_alloc_new w _),fun h2=>by have:=h.ml _ h2;omega,fun h2=>by have:=h.fl _ h2;omega⟩
theorem XS.later(h:XS c0 w c W n f)(k:Mv c W c' W'):XS c0 w c' W' n f:=by
 have hl:=(agS.1 h.na).1;refine⟨h.fx.later k,(k.block _ hl h.no.1).trans h.na,fun hm=>?_,fun hm=>?_⟩
 ·rcases k.m _ hm with h3|h3
  ·exact h.no.1 h3
  ·omega
 ·rcases k.f _ hm with h3|h3
  ·exact h.no.2 h3
  ·omega
theorem XS.below(h:XS c0 w c W n f)(k:Below W.heap.size W W'):XS c0 w c W' n f:=h.later (.of_below c k)
end
theorem Rv{mp mb hv}(G c w st t l k kids a cap)(hm:MS c w mp mb hv st)(hG:GOk G c w)(hr:Ag G w a (Az kids))(kk)(hle:st.left<=0):
  Calls Tryz.prog 187 #[ptr mp,.agg #[.int .i64 kk,.string t,.int .i64 l,.int .i64 k,.slice a kids.length cap]] w (EP mp mb hv Mc Ai c (.err 12 l k) w):=by
 have aE:Below w.heap.size w ((w.alloc (.cells #[.int .i64 kk,.string t,.int .i64 l,.int .i64 k,.slice a kids.length cap] 43)).alloc (.cells #[.int .i64 0,.int .i64 0,.int .i64 0] 203)):=((bRf _ w).alloc (nlr _) _).alloc (by simp) _;have H0:=Lq7 (XS.start hm.ok #[.int .i64 kk,.string t,.int .i64 l,.int .i64 k,.slice a kids.length cap] #[.int .i64 0,.int .i64 0,.int .i64 0]);have aF:=Lq7 (Eb c mp mb hv st l k _ (hm.below aE));have aM:=Lq7 (hG.mv (.of_below c aE));have aW:=Lq7 (hr.below aE);rw[show Da l k st = .err 12 l k from if_pos hle] at aF;unfold ptr at aF |-;go_enter Tryz.func187,Tryz.ntmps187;go_wp2_with fail;refine aF.out.mono ?_;rintro e w1 ⟨c1,aD,rfl⟩;have H1:=Lq7 (H0.out.later aD);unfold Ai;obtain⟨d0,d1,d2,d3,d4,d5,d6⟩:=Aj H1.out.fx.fc;go_wp2_with fail;refine bodyPost_ret (v:=Ai 12 l k) (by simp[Ai,results,Tryz.results187,go_sem,d0,d1,d2,d3]) rfl ?_;exact⟨c1,((H1.out.fx.setF (.int .i64 12) (.int .i64 l) (.int .i64 k)).below ((bRf _ _).alloc (nlr _) _)).mv,rfl⟩
theorem Oq{mp mb:Nat}{hv:Fl}(G:Nat->Prop)(c:Ctx)(w:World)(st:St)(t:ByteArray)(l k:Int)(kids:List Nd)(a:Option Addr)(cap:Nat)(hm:MS c w mp mb hv st)(hG:GOk G c w)(hr:Ag G w a (Az kids))(hle:¬st.left<=0)(hsn:Dn (.mk 2 t l k kids))(ex:Nd->EM Vl)(hnz:∀n,ENz (ex n))(hx:Jy 206 mp mb hv ex)(hne:EM.bind (ex (Ff (.mk 2 t l k kids) 0)) (fun v=>F4 t v l k) { st with left:=st.left - 1} ≠ .out):
  Calls Tryz.prog 187 #[ptr mp,.agg #[.int .i64 2,.string t,.int .i64 l,.int .i64 k,.slice a kids.length cap]] w (EP mp mb hv Mc Ai c (EM.bind (ex (Ff (.mk 2 t l k kids) 0)) (fun v=>F4 t v l k) { st with left:=st.left - 1}) w):=by
 have aE:Below w.heap.size w ((w.alloc (.cells #[.int .i64 2,.string t,.int .i64 l,.int .i64 k,.slice a kids.length cap] 43)).alloc (.cells #[.int .i64 0,.int .i64 0,.int .i64 0] 203)):=((bRf _ w).alloc (nlr _) _).alloc (by simp) _;have H0:=Lq7 (XS.start hm.ok #[.int .i64 2,.string t,.int .i64 l,.int .i64 k,.slice a kids.length cap] #[.int .i64 0,.int .i64 0,.int .i64 0]);have aF:=Lq7 (Eb c mp mb hv st l k _ (hm.below aE));have aM:=Lq7 (hG.mv (.of_below c aE));have aW:=Lq7 (hr.below aE);have Hx:=Lq7 hx;have aY:=Lq7 (Ps hsn 0);have hlen:kids.length<=140737488355328/\t.size<=maxLen:=(by rw[Dn] at hsn;exact⟨by omega,hsn.1⟩);have aG:=Lq7 hlen;have Hnz:=Lq7 hnz;obtain⟨res,aH⟩:∃res,res=EM.bind (ex (Ff (.mk 2 t l k kids) 0)) (fun v=>F4 t v l k) { st with left:=st.left - 1}:=⟨_,rfl⟩;rw[<-aH] at hne |-;have aA:=Lq7 aH;have aN:=Lq7 hne;rw[show Da l k st = .ok () { st with left:=st.left - 1} from if_neg hle] at aF;unfold ptr at aF |-;go_enter Tryz.func187,Tryz.ntmps187;go_wp2_with fail;refine aF.out.mono ?_;rintro e w0 ⟨c0,aD,hms,v0,rfl,hv0⟩;obtain rfl:v0=Ai 0 0 0:=hv0;have aJ:Below w0.heap.size w0 (w0.alloc (.cells #[.int .i64 0,.int .i64 0,.int .i64 0] 203)):=(bRf _ w0).alloc (nlr _) _;have H1:=Lq7 ((H0.out.later aD).below aJ);have Hm1:=Lq7 (hms.below aJ);have HG1:=Lq7 ((aM.out.mv aD).mv (.of_below c0 aJ));have Hr1:=Lq7 ((aW.out.gmv aM.out aD).below aJ);unfold Ai;obtain⟨r0,r1,r2,r3,r4,r5,r6,r7,r8,r9,r10⟩:=Aa H1.out.na;have Hk:Hid (Calls Tryz.prog 207 #[.agg #[.int .i64 2,.string t,.int .i64 l,.int .i64 k,.slice a kids.length cap],.int .i64 0] (w0.alloc (.cells #[.int .i64 0,.int .i64 0,.int .i64 0] 203)) (PKid G (Ff (.mk 2 t l k kids) 0) (w0.alloc (.cells #[.int .i64 0,.int .i64 0,.int .i64 0] 203)))):=Lq7 (kid_any G 2 t l k kids a cap 0 _ (by omega) (by omega) aG.out.1 Hr1.out);generalize hx0:Ff (.mk 2 t l k kids) 0=x0 at Hk aY aA;go_wp2_with fail;refine Hk.out.mono ?_;rintro e w1 ⟨v1,rfl,hn1,aQ⟩;have hn0:ex x0 { st with left:=st.left - 1} ≠ .out:=fun h=>aN.out (by rw[aA.out,Ds h]);have Hc:=Lq7 (Hx.out G c0 w1 { st with left:=st.left - 1} x0 v1 (Hm1.out.below aQ) (HG1.out.mv (.of_below c0 aQ)) hn1 aY.out hn0);have H2:=Lq7 (H1.out.below aQ);unfold ptr at Hc;go_wp2_with fail;refine Hc.out.mono ?_;rintro e w2 ⟨c2,aD,hq⟩;have H3:=Lq7 (H2.out.later aD);obtain⟨d0,d1,d2,d3,d4,d5,d6⟩:=Aj H3.out.fx.fc;obtain⟨r0,r1,r2,r3,r4,r5,r6,r7,r8,r9,r10⟩:=Aa H3.out.na;cases hxx:ex x0 { st with left:=st.left - 1} with
 | out=>exact absurd hxx (fun h=>aN.out (by rw[aA.out,Ds h]))
 | err x y z=>
  rw[hxx] at hq;obtain rfl:=hq;have aB:Hid (res = .err x y z):=Lq7 (by rw[aA.out,Dg hxx]);have hxz:=Hnz.out _ _ _ _ _ hxx;have hxz':(x==0)=false:=(by simpa using hxz);have d01:w.heap.size<w2.heap.size:=(by omega);unfold badV zeroV Ai;go_wp2_with fail;refine bodyPost_ret (v:=Ai x y z) (by simp[Ai,results,Tryz.results187,go_sem,d0,d01,d1,d2,d3]) rfl ?_;rw[aB.out];have hbe:=fun(W:World)=>((bRf _ W).alloc (nlr _) (.cells #[.int .i64 0,.int .i64 0,.string ⟨#[]⟩,.slice none 0 0,.slice none 0 0] 25)).alloc (by simp) (.cells #[.int .i64 x,.int .i64 y,.int .i64 z] 203);exact⟨c2,((H3.out.fx.setF (.int .i64 x) (.int .i64 y) (.int .i64 z)).below (hbe _)).mv,rfl⟩
 | ok xa st2=>
  rw[hxx] at hq;obtain⟨aR,v2,rfl,cs,rfl,aI,aS⟩:=hq;have aC:Hid (res=F4 t xa l k st2):=Lq7 (by rw[aA.out,Cf hxx]);have aU:∀o1 o2,Below w2.heap.size w2 ((w2.alloc o1).alloc o2):=fun o1 o2=>((bRf _ w2).alloc (nlr _) _).alloc (by simp) _;obtain⟨b1,e1,b2,e2,hcs,-,-⟩:∃a c a' c',cs=[.int .i64 xa.kind,.int .i64 xa.num,.string xa.str,.slice a xa.items.length c,.slice a' xa.keys.length c']/\True/\True:=by
   obtain⟨yk,yn,ys,yl,yks⟩:=xa;obtain⟨b1,e1,b2,e2,h,-,-⟩:=aI.val;exact⟨b1,e1,b2,e2,h,trivial,trivial⟩
  subst hcs;have Hp:=Lq7 (put_any c2 mp mb hv st2 t xa _ l k _ (aR.below (aU (.cells #[.int .i64 xa.kind,.int .i64 xa.num,.string xa.str,.slice b1 xa.items.length e1,.slice b2 xa.keys.length e2] 25) (.cells #[.int .i64 0,.int .i64 0,.int .i64 0] 203))) aG.out.2 (aI.below (aU _ _)) aS);have H4:=Lq7 (H3.out.below (aU (.cells #[.int .i64 xa.kind,.int .i64 xa.num,.string xa.str,.slice b1 xa.items.length e1,.slice b2 xa.keys.length e2] 25) (.cells #[.int .i64 0,.int .i64 0,.int .i64 0] 203)));unfold ptr at Hp;unfold Ai;go_wp2_with fail;refine Hp.out.mono ?_;rintro e w4 ⟨c4,aD,hq⟩;have H5:=Lq7 (H4.out.later aD);obtain⟨d0,d1,d2,d3,d4,d5,d6⟩:=Aj H5.out.fx.fc;cases hpx:F4 t xa l k st2 with
  | out=>exact absurd hpx (fun h=>aN.out (by rw[aC.out,h]))
  | err x y z=>
   rw[hpx] at hq;obtain rfl:=hq;have aB:Hid (res = .err x y z):=Lq7 (by rw[aC.out,hpx]);unfold Ai;go_wp2_with fail;refine bodyPost_ret (v:=Ai x y z) (by simp[Ai,results,Tryz.results187,go_sem,d1,d2,d3]) rfl ?_;rw[aB.out];exact⟨c4,(H5.out.fx.setF (.int .i64 x) (.int .i64 y) (.int .i64 z)).mv,rfl⟩
  | ok u st4=>
   rw[hpx] at hq;obtain⟨aV,v4,rfl,hv4⟩:=hq;obtain rfl:v4=Ai 0 0 0:=hv4;have aB:Hid (res = .ok u st4):=Lq7 (by rw[aC.out,hpx]);have Hm5:=Lq7 aV;unfold Ai;go_wp2_with fail;refine bodyPost_ret (v:=Ai 0 0 0) (by simp[Ai,results,Tryz.results187,go_sem,d1,d2,d3]) rfl ?_;rw[aB.out];exact⟨c4,(H5.out.fx.setF (.int .i64 0) (.int .i64 0) (.int .i64 0)).mv,Hm5.out.setO H5.out.fx.out (.int .i64 0) (.int .i64 0) (.int .i64 0),_,rfl,rfl⟩
theorem ENz.block{sm}(hs:∀n,ENz (sm n)):∀l:List Nd,ENz (Ew sm l)
 | []=> .pure ()
 | n::t=> .bind (hs n) fun _=>ENz.block hs t
theorem Pz{ex sm st kk l k t kids}(hle:st.left<=0):Ov ex sm (.mk kk t l k kids) st = .err 12 l k:=
 Dg (if_pos hle)
theorem eStmt_go{ex sm st kk l k t kids}(hle:¬st.left<=0):Ov ex sm (.mk kk t l k kids) st =
  (if kk=2 then EM.bind (ex (Ff (.mk kk t l k kids) 0)) fun v=>F4 t v l k
  else eOut) { st with left:=st.left - 1}:=
 Cf (if_neg hle)
theorem K1{mp mb hv ex sm}(hnz:∀n,ENz (ex n))(hx:Jy 206 mp mb hv ex):
  SDoes 187 mp mb hv (Ov ex sm):=by
 intro G c w st n v hm hG hn hsn aA;obtain⟨kk,t,l,k,kids⟩:=n;obtain⟨a,cap,rfl,hr⟩:=hn.open;by_cases hle:st.left<=0
 ·rw[Pz hle];exact Rv G c w st t l k kids a cap hm hG hr kk hle
 rw[eStmt_go hle] at aA |-;by_cases h2:kk=2
 ·subst h2;rw[if_pos rfl] at aA |-;exact Oq G c w st t l k kids a cap hm hG hr hle hsn ex hnz hx aA
 rw[if_neg h2] at aA;exact absurd rfl aA
theorem ENz.stmt{ex sm}(hx:∀n,ENz (ex n))(n):ENz (Ov ex sm n):=by
 refine .bind (.step _ _) fun _=>?_;split
 ·exact .bind (hx _) fun v=> .put _ _ _ _
 ·exact .out
theorem ENz.stmts{ans}:∀(f:Nat) (n:Nd),ENz (Ip ans f n)
 | 0,_=> .out
 | f+1,n=>ENz.stmt (ENz.exprs f) n
theorem P0{mp mb hv}:∀f,SDoes 187 mp mb hv (Ip hv.ans f)
 | 0=>fun _ _ _ _ _ _ _ _ _ _ aA=>absurd rfl aA
 | f+1=>K1 (sm:=Ip hv.ans f) (ENz.exprs f) (K0 f)
def plainK(ans:Ans):Fl:=⟨.iface 210 (.agg #[]),ans,fun _ F w _=>Ea w/\Gj w/\F 1/\F 0,
 fun h hF _ hk=>⟨h.1.keep (hk _ (.inr h.2.2.1) h.1.here),(by
  obtain⟨m,hm⟩:=h.2.1;exact⟨m,(World.cell?_of_block (hk _ (.inr h.2.2.2) (Ar hm))).trans hm⟩),hF _ h.2.2.1,hF _ h.2.2.2⟩,fun h=>⟨h.1,h.2.1⟩⟩
end Go.Proofs.YtkehdallfohjfaaGreatDoor
