/-
  How the evaluator's call stands on its way:what arguments are gathered so far. (Printed by call_gen.py.) (And what it stands on.)
-/
import Derived.Deep.RegionWith
import Derived.Test.YtbcdimjbepigcaaGreatDoorMPlusA
import Derived.Test.YtbcdimjbepigcaaGreatDoorMParseX
import Derived.Test.YtbcdimjbepigcaaGreatDoorMNumA
import Derived.Test.YtbcdimjbepigcaaGreatDoorShelf
import Derived.Test.YtbcdimjbepigcaaGreatDoorMParseNz
import Derived.Test.YtbcdimjbepigcaaGreatDoorMKeysB
namespace Go.Proofs.YtbcdimjbepigcaaGreatDoor
open Go Go.RowKit
open Nat renaming lt_of_lt_of_le->nll
open Go.Lib renaming hid->Lq7
open And renaming intro->aIn
set_option maxRecDepth 100000
set_option maxHeartbeats 16000000
theorem Nc{B w W}(h:Below B w W){b}(hb:B<=b)(v0 v1 v2 v3 v4):Below B w (((((W.setCell ⟨b,0,none⟩ v0).setCell ⟨b,1,none⟩ v1).setCell ⟨b,2,none⟩ v2).setCell ⟨b,3,none⟩ v3).setCell ⟨b,4,none⟩ v4):=
 ((((h.setCell (p:=⟨b,0,none⟩) hb _).setCell (p:=⟨b,1,none⟩) hb _).setCell (p:=⟨b,2,none⟩) hb _).setCell (p:=⟨b,3,none⟩) hb _).setCell (p:=⟨b,4,none⟩) hb _
def PMade(v:Vl)(cs:List Value)(l k:Int)(w:World)(e:Ending)(w':World):Prop:=
 Below w.heap.size w w'/\e = .returned (if A0 v then .tuple #[.agg cs.toArray,Ai 0 0 0] else badV 6 l k)
theorem Nf(v)(hs:A6 v)(F cs l k w)(hF:∀b,F b->b<w.heap.size)(hc:Am F w (valD v) cs):
  Calls Tryz.prog 165 #[.agg cs.toArray,.agg #[.int .i64 l,.int .i64 k]] w (PMade v cs l k w):=by
 obtain⟨vk,vn,vs,vl,vks⟩:=v;obtain⟨a1,c1,a2,c2,rfl,hr1,hr2⟩:=hc.val;have H0:=Lq7 (alloc4 w (.cells #[.int .i64 vk,.int .i64 vn,.string vs,.slice a1 vl.length c1,.slice a2 vks.length c2] 42) (.cells #[.int .i64 l,.int .i64 k] 28) (.cells #[.int .i64 0,.int .i64 0,.string ⟨#[]⟩,.slice none 0 0,.slice none 0 0] 42) (.cells #[.int .i64 0,.int .i64 0,.int .i64 0] 95));have aC:=Lq7 (Dx (.mk vk vn vs vl vks) hs F a1 c1 a2 c2 _ (fun b hb=>nll (hF b hb) H0.out.2.2.2.2.1.size) (hr1.below H0.out.2.2.2.2.1) (hr2.below H0.out.2.2.2.2.1));unfold A8 at aC;unfold PMade;cases hck:A0 (.mk vk vn vs vl vks)
 ·rw[hck] at aC;go_enter Tryz.func165,Tryz.ntmps165;go_wp2_with fail;refine aC.out.mono ?_;rintro e w1 ⟨rfl,aB⟩
  go_upto_region 2 with fail
  have H1:=Lq7 (aIn (stays H0.out.2.1 aB) (aIn (stays H0.out.2.2.1 aB) (aIn (stays H0.out.2.2.2.1 aB) (H0.out.2.2.2.2.1.trans (aB.mono H0.out.2.2.2.2.1.size)))));refine A4 (.s 0 (.s 1 (.s 2 (.h 3 (.h 4 .nil))))) 99 (fun W'=>W'.heap[w.heap.size+1]? = some (.cells #[.int .i64 l,.int .i64 k] 28 (0,0))) H1.out.1 ?_;have aD:Below w1.heap.size w1 w1.drew:=(Below.refl _ w1).drew;have H2:=Lq7 (aIn (stays H1.out.1 aD) (aIn (stays H1.out.2.1 aD) (aIn (stays H1.out.2.2.1 aD) (H1.out.2.2.2.trans (aD.mono H1.out.2.2.2.size)))));generalize w1.drew=Wd at H2 |-;refine A9 zeroV (fun W' hS=>?_) ?_
  ·unfold zeroV;go_simp
  refine Ap (.agg #[.int .i64 l,.int .i64 k]) ?_;refine A9 (Ai 6 l k) (fun W' hS=>?_) ?_
  ·unfold Ai;go_simp
  unfold zeroV Ai;obtain⟨r0,r1,r2,r3,r4,r5,r6,r7,r8,r9,aE⟩:=Aa H2.out.2.1;refine Ac rfl (fun Kx hKx=>?_);go_wp2_with fail;have H3:Hid ((((((Wd.setCell ⟨w.heap.size+1+1,0,none⟩ (.int .i64 0)).setCell ⟨w.heap.size+1+1,1,none⟩ (.int .i64 0)).setCell ⟨w.heap.size+1+1,2,none⟩ (.string ⟨#[]⟩)).setCell ⟨w.heap.size+1+1,3,none⟩ (.slice none 0 0)).setCell ⟨w.heap.size+1+1,4,none⟩ (.slice none 0 0)).heap[w.heap.size+1]? = some (.cells #[.int .i64 l,.int .i64 k] 28 (0,0)) /\
    (((((Wd.setCell ⟨w.heap.size+1+1,0,none⟩ (.int .i64 0)).setCell ⟨w.heap.size+1+1,1,none⟩ (.int .i64 0)).setCell ⟨w.heap.size+1+1,2,none⟩ (.string ⟨#[]⟩)).setCell ⟨w.heap.size+1+1,3,none⟩ (.slice none 0 0)).setCell ⟨w.heap.size+1+1,4,none⟩ (.slice none 0 0)).heap[w.heap.size+1+1]? = some (.cells #[.int .i64 0,.int .i64 0,.string ⟨#[]⟩,.slice none 0 0,.slice none 0 0] 42 (0,0)) /\
    (((((Wd.setCell ⟨w.heap.size+1+1,0,none⟩ (.int .i64 0)).setCell ⟨w.heap.size+1+1,1,none⟩ (.int .i64 0)).setCell ⟨w.heap.size+1+1,2,none⟩ (.string ⟨#[]⟩)).setCell ⟨w.heap.size+1+1,3,none⟩ (.slice none 0 0)).setCell ⟨w.heap.size+1+1,4,none⟩ (.slice none 0 0)).heap[w.heap.size+1+1+1]? = some (.cells #[.int .i64 0,.int .i64 0,.int .i64 0] 95 (0,0)) /\
    Below w.heap.size w (((((Wd.setCell ⟨w.heap.size+1+1,0,none⟩ (.int .i64 0)).setCell ⟨w.heap.size+1+1,1,none⟩ (.int .i64 0)).setCell ⟨w.heap.size+1+1,2,none⟩ (.string ⟨#[]⟩)).setCell ⟨w.heap.size+1+1,3,none⟩ (.slice none 0 0)).setCell ⟨w.heap.size+1+1,4,none⟩ (.slice none 0 0))):=Lq7
   ⟨(Ba (by omega) _ _ _ _ _).trans H2.out.1,by rw[Ag (Ag (Ag (Ag (Ag H2.out.2.1 0 _) 1 _) 2 _) 3 _) 4];rfl,(Ba (by omega) _ _ _ _ _).trans H2.out.2.2.1,
    Nc H2.out.2.2.2 (by omega) _ _ _ _ _⟩
  refine hKx _ _ (fun _=>H3.out.1) ?_;generalize World.setCell _ _ _=W3 at H3 |-;(try simp only[gX,Act.put]);obtain⟨d0,d1,d2,d3,d4,d5,d6⟩:=Ah H3.out.2.2.1;refine Ac rfl (fun Ky hKy=>?_);go_wp2_with fail;refine hKy _ _ (fun _=>((((Ad (by omega) 2 _).trans (Ad (by omega) 1 _)).trans (Ad (by omega) 0 _)).trans H3.out.1)) ?_;refine Ak ?_;(try simp only[gX,Act.put]);obtain⟨r0,r1,r2,r3,r4,r5,r6,r7,r8,r9,aE⟩:=Aa H3.out.2.1;go_wp2_with fail;refine bodyPost_ret (v:=badV 6 l k) (by simp[badV,zeroV,Ai,results,Tryz.results165,go_sem,r1,r2,r3,r4,r5,d1,d2,d3]) rfl ?_;exact⟨((H3.out.2.2.2.setCell (p:=⟨w.heap.size+1+1+1,0,none⟩) (by show _<=w.heap.size+1+1+1;omega) _).setCell (p:=⟨w.heap.size+1+1+1,1,none⟩) (by show _<=w.heap.size+1+1+1;omega) _).setCell (p:=⟨w.heap.size+1+1+1,2,none⟩) (by show _<=w.heap.size+1+1+1;omega) _,rfl⟩
 ·rw[hck] at aC;go_enter Tryz.func165,Tryz.ntmps165;go_wp2_with fail;refine aC.out.mono ?_;rintro e w1 ⟨rfl,aB⟩;have H1:=Lq7 (aIn (stays H0.out.1 aB) (aIn (stays H0.out.2.2.1 aB) (aIn (stays H0.out.2.2.2.1 aB) (H0.out.2.2.2.2.1.trans (aB.mono H0.out.2.2.2.2.1.size)))));obtain⟨t0,t1,t2,t3,t4,t5,t6,t7,t8,t9,t10⟩:=Aa H1.out.1;obtain⟨r0,r1,r2,r3,r4,r5,r6,r7,r8,r9,aE⟩:=Aa H1.out.2.1;obtain⟨d0,d1,d2,d3,d4,d5,d6⟩:=Ah H1.out.2.2.1;go_wp2_with fail;refine bodyPost_ret (v:=.tuple #[.agg #[.int .i64 vk,.int .i64 vn,.string vs,.slice a1 vl.length c1,.slice a2 vks.length c2],Ai 0 0 0]) (by simp[Ai,results,Tryz.results165,go_sem,r1,r2,r3,r4,r5,d1,d2,d3]) rfl ?_;refine⟨?_,rfl⟩;exact((Nc H1.out.2.2.2 (by omega) _ _ _ _ _).setCell (p:=⟨w.heap.size+1+1+1,0,none⟩) (by show _<=w.heap.size+1+1+1;omega) _).setCell (p:=⟨w.heap.size+1+1+1,1,none⟩) (by show _<=w.heap.size+1+1+1;omega) _ |>.setCell (p:=⟨w.heap.size+1+1+1,2,none⟩) (by show _<=w.heap.size+1+1+1;omega) _
theorem Rc(s v)(h:Ja s=some v)(w)(hT:Et w):
  Calls Tryz.prog 164 #[.string s] w (fun e w'=>e = .returned (.tuple #[.int .i64 v,.bool true])/\Below w.heap.size w w'):=by
 have hp:Lib.parseIntB 64 s.data.toList = .ok v/\inR v=true/\s.size<=65536/\Lib.itoa v=s.data.toList:=by
  unfold Ja at h;split at h
  ·rename_i v' hv'
   split at h
   ·rename_i hc
    cases h;exact⟨hv',hc⟩
   ·cases h
  ·cases h
 obtain⟨h1,h2,h4,h5⟩:=hp;have Hp:=Lq7 (Tryz.strconv_ParseInt_10_at64_ok s (by omega) v h1 w);have Hn:=Lq7 (fun(w1:World) (hT1:Et w1)=>Un v h2 w1 hT1);have H5:=Lq7 h5;have HT:=Lq7 hT;clear h h1 h5 h2 hT;go_enter Tryz.func164,Tryz.ntmps164;go_wp2_with fail;refine Hp.out.mono ?_;rintro e w1 ⟨rfl,aC⟩;have aD:Below w.heap.size w w1:=by
  rcases aC with rfl|⟨t,rfl⟩
  ·exact Below.refl _ _
  ·exact Hy w _ t
 clear aC;have aB:=Lq7 aD;clear aD;go_wp2_with fail;refine(Hn.out _ (HT.out.below aB.out)).mono ?_;rintro e w2 ⟨o,rfl,ho,aE⟩;obtain rfl:o=s:=bytes_ext (ho.trans H5.out);have hne:(o.toList != o.toList)=false:=(by simp);have Hb2:=Lq7 (aB.out.trans (aE.mono aB.out.size));clear ho aE;go_wp2_with fail
 go_ret2
 exact⟨rfl,Hb2.out⟩
mutual
def Ci:Nd->Prop
 | .mk _ t _ _ l=>t.size<=maxLen/\l.length<=1000000/\smallNs l
def smallNs:List Nd->Prop
 | []=>True
 | v::t=>Ci v/\smallNs t
end
theorem Em:∀{l:List Nd} {x:Nd},smallNs l->x∈l->Ci x
 | _::_,_,h,.head _=>h.1
 | _::_,_,h,.tail _ hm=>Em h.2 hm
theorem smallN_zero:Ci ndZero:=by
 unfold ndZero;rw[Ci];exact⟨Nat.zero_le _,by simp,by rw[smallNs];trivial⟩
theorem Fh{n}(h:Ci n)(i):Ci (kidN n i):=by
 obtain⟨k,t,l,c,kids⟩:=n;rw[Ci] at h;unfold kidN;show Ci ((kids[i]?).getD ndZero);cases hk:kids[i]? with
 | none=>exact smallN_zero
 | some x=>exact Em h.2.2 (List.mem_of_getElem? hk)
def GOk(G:Nat->Prop)(c:Ctx)(w:World):Prop:=∀b,G b->b<w.heap.size/\¬c.M b
theorem GOk.mv{G c c' w w'}(h:GOk G c w)(k:Mv c w c' w'):GOk G c' w':=
 fun b hb=>⟨nll (h b hb).1 k.size,fun hm=>by rcases k.m b hm with h1|h1;exact(h b hb).2 h1;have:=(h b hb).1;omega⟩
theorem Af.gmv{G c c' w w' a l}(h:Af G w a l)(hG:GOk G c w)(k:Mv c w c' w'):Af G w' a l:=
 h.mono fun b hb hl=>⟨hb,nll hl k.size,k.block b hl (hG b hb).2⟩
structure XB(c0:Ctx)(w:World)(c:Ctx)(W:World)(n v f:Array Value):Prop where
 mv:Mv c0 w c W
 size:w.heap.size+3<=W.heap.size
 na:W.heap[w.heap.size]? = some (.cells n 49 (0,0))
 vb:W.heap[w.heap.size+1]? = some (.cells v 42 (0,0))
 fc:W.heap[w.heap.size+1+1]? = some (.cells f 95 (0,0))
 out:∀b,w.heap.size<=b->b<w.heap.size+3->¬c.M b/\¬c.F b
section
variable {c0 c c':Ctx} {w W W':World} {n v f:Array Value}
theorem XB.start(h:c0.Ok w)(n v f:Array Value):XB c0 w c0 (((w.alloc (.cells n 49)).alloc (.cells v 42)).alloc (.cells f 95)) n v f:=by
 obtain⟨h1,h2,h3,h4,h5⟩:=Ch w (.cells n 49) (.cells v 42) (.cells f 95);exact⟨.of_below c0 h4,by omega,h1,h2,h3,fun b hb _=>⟨fun hm=>by have:=h.ml b hm;omega,fun hm=>by have:=h.fl b hm;omega⟩⟩
theorem XB.later(h:XB c0 w c W n v f)(k:Mv c W c' W'):XB c0 w c' W' n v f:=by
 have hs:=h.size;have hk:∀b,w.heap.size<=b->b<w.heap.size+3->W'.heap[b]? = W.heap[b]?:=fun b h1 h2=>k.block b (by omega) (h.out b h1 h2).1;refine⟨h.mv.trans k,Nat.le_trans hs k.size,(hk _ (by omega) (by omega)).trans h.na,(hk _ (by omega) (by omega)).trans h.vb,(hk _ (by omega) (by omega)).trans h.fc,fun b h1 h2=>⟨fun hm=>?_,fun hm=>?_⟩⟩
 ·rcases k.m b hm with h3|h3
  ·exact(h.out b h1 h2).1 h3
  ·omega
 ·rcases k.f b hm with h3|h3
  ·exact(h.out b h1 h2).2 h3
  ·omega
theorem XB.below(h:XB c0 w c W n v f)(k:Below W.heap.size W W'):XB c0 w c W' n v f:=h.later (.of_below c k)
def Cb(W:World)(b:Nat)(v0 v1 v2 v3 v4:Value):World:=((((W.setCell ⟨b,0,none⟩ v0).setCell ⟨b,1,none⟩ v1).setCell ⟨b,2,none⟩ v2).setCell ⟨b,3,none⟩ v3).setCell ⟨b,4,none⟩ v4
def Bs(W:World)(b:Nat)(v0 v1 v2:Value):World:=((W.setCell ⟨b,0,none⟩ v0).setCell ⟨b,1,none⟩ v1).setCell ⟨b,2,none⟩ v2
theorem XB.setV{x0 x1 x2 x3 x4:Value}(h:XB c0 w c W n #[x0,x1,x2,x3,x4] f)(v0 v1 v2 v3 v4:Value):XB c0 w c (Cb W (w.heap.size+1) v0 v1 v2 v3 v4) n #[v0,v1,v2,v3,v4] f:=by
 unfold Cb;refine⟨((((h.mv.set (.inl (Nat.le_succ _)) 0 _).set (.inl (Nat.le_succ _)) 1 _).set (.inl (Nat.le_succ _)) 2 _).set (.inl (Nat.le_succ _)) 3 _).set (.inl (Nat.le_succ _)) 4 _,by simpa using h.size,(Ba (by omega) _ _ _ _ _).trans h.na,?_,(Ba (by omega) _ _ _ _ _).trans h.fc,h.out⟩;rw[Ag (Ag (Ag (Ag (Ag h.vb 0 v0) 1 v1) 2 v2) 3 v3) 4 v4];rfl
theorem XB.setF{x0 x1 x2:Value}(h:XB c0 w c W n v #[x0,x1,x2])(v0 v1 v2:Value):XB c0 w c (Bs W (w.heap.size+1+1) v0 v1 v2) n v #[v0,v1,v2]:=by
 unfold Bs;refine⟨((h.mv.set (.inl (by omega)) 0 _).set (.inl (by omega)) 1 _).set (.inl (by omega)) 2 _,by simpa using h.size,by rw[Ad (by omega),Ad (by omega),Ad (by omega)];exact h.na,by rw[Ad (by omega),Ad (by omega),Ad (by omega)];exact h.vb,?_,h.out⟩;rw[Ag (Ag (Ag h.fc 0 v0) 1 v1) 2 v2];rfl
theorem XB.msV{mp mb:Nat}{hv:Ec}{st:St}(h:XB c0 w c W n v f)(hm:MS c W mp mb hv st)(v0 v1 v2 v3 v4:Value):MS c (Cb W (w.heap.size+1) v0 v1 v2 v3 v4) mp mb hv st:=
 hm.other (by unfold Cb;simp) (fun b _ aC=>Ba (fun e=>by subst e;have:=h.out (w.heap.size+1) (by omega) (by omega);rcases aC with h1|h1;exact this.1 h1;exact this.2 h1) _ _ _ _ _)
theorem XB.msF{mp mb:Nat}{hv:Ec}{st:St}(h:XB c0 w c W n v f)(hm:MS c W mp mb hv st)(v0 v1 v2:Value):MS c (Bs W (w.heap.size+1+1) v0 v1 v2) mp mb hv st:=
 hm.other (by unfold Bs;simp) (fun b _ aC=>by
  have aB:b≠w.heap.size+1+1:=fun e=>(by subst e;have:=h.out (w.heap.size+1+1) (by omega) (by omega);rcases aC with h1|h1;exact this.1 h1;exact this.2 h1);unfold Bs;rw[Ad aB,Ad aB,Ad aB])
theorem XB.aggV(h:XB c0 w c W n v f){ds:List Dat}{cs:List Value}(ha:Am c.F W ds cs)(v0 v1 v2 v3 v4:Value):Am c.F (Cb W (w.heap.size+1) v0 v1 v2 v3 v4) ds cs:=
 ha.mono fun b hF hl=>⟨hF,by unfold Cb;simpa using hl,Ba (fun e=>by subst e;exact(h.out (w.heap.size+1) (by omega) (by omega)).2 hF) _ _ _ _ _⟩
theorem XB.aggF(h:XB c0 w c W n v f){ds:List Dat}{cs:List Value}(ha:Am c.F W ds cs)(v0 v1 v2:Value):Am c.F (Bs W (w.heap.size+1+1) v0 v1 v2) ds cs:=
 ha.mono fun b hF hl=>⟨hF,by unfold Bs;simpa using hl,by
  have aB:b≠w.heap.size+1+1:=fun e=>(by subst e;exact(h.out (w.heap.size+1+1) (by omega) (by omega)).2 hF);unfold Bs;rw[Ad aB,Ad aB,Ad aB]⟩
end
def Fc(f mp mb:Nat)(hv:Ec)(ex:Nd->EM Vl):Prop:=∀(G:Nat->Prop) (c:Ctx) (w:World) (st:St) (n:Nd) (v:Value),MS c w mp mb hv st->GOk G c w->A3 G w n v->Ci n->ex n st ≠ .out ->
 Calls Tryz.prog f #[ptr mp,v] w (EP mp mb hv Mr badV c (ex n st) w)
end Go.Proofs.YtbcdimjbepigcaaGreatDoor
namespace Go.Proofs.YtbcdimjbepigcaaGreatDoor
open Go Go.RowKit Go.Maps Go.WideMaps
open List renaming getElem?_eq_getElem->lgE,mem_of_getElem? -> lgM,getElem?_map->lgP,getElem?_eq_some_iff->lgS
open Nat renaming le_refl->nlr
open Go.Lib renaming hid->Lq7,toList_data->Lq8
open Go.Act renaming put->aP
open Go.RowKit.Below renaming refl->bRf
open Go.World renaming setCell->wsC
set_option maxRecDepth 100000
set_option maxHeartbeats 16000000
theorem MS.look_all{c w mp mb hv st}(h:MS c w mp mb hv st)(s)(hs:s.size<=maxLen):
  (C9 st.names s=none/\∀W',W'.heap[mb]? = w.heap[mb]? -> (Instr.lookup 91 (.map (some mb)) (.string s) true).run Tryz.prog W' = .ok (.tuple #[zeroV,.bool false]) W') \/
   ∃v cs,C9 st.names s=some v/\Am c.F w (valD v) cs/\A0 v=true/\∀W',W'.heap[mb]? = w.heap[mb]? -> (Instr.lookup 91 (.map (some mb)) (.string s) true).run Tryz.prog W' = .ok (.tuple #[.agg cs.toArray,.bool true]) W':=by
 obtain⟨m,h1,h2⟩:=h.names;have hk:=Gn h2 (fun q hq=>(h.few q hq).2);have look:=fun(W:World) (hW:W.heap[mb]? = w.heap[mb]?)=>(h1.of_block hW).look true (string_keyed Tryz.underlying9) Tryz.underlying91 (zeroValueV W) hk (keyOf_string_mk Tryz.underlying9 hs);by_cases hf:∃(j:Nat) (v:Value),m[j]? = some (.string s,v)
 ·obtain⟨j,v,h3⟩:=hf;have bO:=(lgS.1 h3).1;have hn:st.names[j]? = some (st.names[j]'(by rw[<-h2.1];exact bO)):=lgE _;obtain⟨h5,cs,h6,h7⟩:=h2.2 j _ _ h3 hn;have hs':s=(st.names[j]'(by rw[<-h2.1];exact bO)).1:=(by injection h5);have h6':v = .agg cs.toArray:=h6;refine .inr ⟨(st.names[j]'(by rw[<-h2.1];exact bO)).2,cs,El h.uniq (j:=j) (by rw[hn,hs']),h7,(h.few _ (lgM hn)).1,fun W' hW=>?_⟩;rcases look W' hW with⟨h8,-⟩|⟨j',v',h8,h9⟩
  ·exact absurd rfl (h8 _ (lgM h3))
  ·have hj':=(lgS.1 h8).1;have hn':st.names[j']? = some (st.names[j']'(by rw[<-h2.1];exact hj')):=lgE _;obtain⟨h10,-⟩:=h2.2 j' _ _ h8 hn';have hs2:s=(st.names[j']'(by rw[<-h2.1];exact hj')).1:=(by injection h10);have hjj:j=j':=(List.getElem?_inj (by rw[List.length_map,<-h2.1];exact bO) h.uniq).1 (by rw[lgP,lgP,hn,hn'];simp[<-hs',<-hs2]);subst hjj;rw[h3] at h8;cases h8;rw[h9,h6'];rfl
 ·refine .inl ⟨Na fun q hq e=>?_,fun W' hW=>?_⟩
  ·obtain⟨j,hj⟩:=List.getElem?_of_mem hq;have bO:=(lgS.1 hj).1;have hm:m[j]? = some (m[j]'(by rw[h2.1];exact bO)):=lgE _;obtain⟨h5,-⟩:=h2.2 j _ q hm hj;exact hf ⟨j,(m[j]'(by rw[h2.1];exact bO)).2,by rw[hm,<-e,<-h5]⟩
  ·rcases look W' hW with⟨-,h9⟩|⟨j',v',h8,-⟩
   ·exact h9
   ·exact absurd ⟨j',v',h8⟩ hf
theorem Nh(x)(hx:inR x=true):A0 (.mk 2 x ⟨#[]⟩ [] [])=true:=by
 have h:(⟨#[]⟩:ByteArray).toList.isEmpty=true:=(by rw[Lq8];rfl);simp[A0,mayV,Ck,By,hx]
theorem Rd{s v}(h:C0 s=some v):A0 v=true:=by
 have h0:(⟨#[]⟩:ByteArray).toList.isEmpty=true:=(by rw[Lq8];rfl);unfold C0 at h;split at h
 ·cases h;simp[A0,mayV,Ck,By]
 ·split at h
  ·cases h;simp[A0,mayV,Ck,By]
  ·split at h
   ·cases h;simp[vZero,A0,mayV,Ck,By]
   ·cases h
theorem expr_num(mp mb hv G c w st t l k kids a cap)(hm:MS c w mp mb hv st)(hG:GOk G c w)(hr:Af G w a (A2 kids))(hle:¬st.left<=0)(x)(hx:Ja t=some x):
  Calls Tryz.prog 116 #[ptr mp,.agg #[.int .i64 10,.string t,.int .i64 l,.int .i64 k,.slice a kids.length cap]] w (EP mp mb hv Mr badV c (.ok (.mk 2 x ⟨#[]⟩ [] []) { st with left:=st.left - 1}) w):=by
 have H0:=Lq7 (XB.start hm.ok #[.int .i64 10,.string t,.int .i64 l,.int .i64 k,.slice a kids.length cap] #[.int .i64 0,.int .i64 0,.string ⟨#[]⟩,.slice none 0 0,.slice none 0 0] #[.int .i64 0,.int .i64 0,.int .i64 0]);have Hx:=Lq7 hx;have aC:=Lq7 (Dl c mp mb hv st l k _ (hm.below (Ch w (.cells #[.int .i64 10,.string t,.int .i64 l,.int .i64 k,.slice a kids.length cap] 49) (.cells #[.int .i64 0,.int .i64 0,.string ⟨#[]⟩,.slice none 0 0,.slice none 0 0] 42) (.cells #[.int .i64 0,.int .i64 0,.int .i64 0] 95)).2.2.2.1));rw[show Dw l k st = .ok () { st with left:=st.left - 1} from if_neg hle] at aC;have HG:=Lq7 hG;have Hr:=Lq7 hr;unfold ptr at aC |-;go_enter Tryz.func116,Tryz.ntmps116;go_wp2_with fail;refine aC.out.mono ?_;rintro e w1 ⟨c1,aB,aM,v1,rfl,aQ⟩;obtain rfl:v1=Ai 0 0 0:=aQ;have bB:=Lq7 (HG.out.mv (H0.out.mv.trans aB));have bC:=Lq7 (Hr.out.gmv HG.out (H0.out.mv.trans aB));have H1:=Lq7 (H0.out.later aB);have aN:=Lq7 aM;unfold Ai;obtain⟨r0,r1,r2,r3,r4,r5,r6,r7,r8,r9,bH⟩:=Aa H1.out.na;go_wp2_with fail;have HT1:=Lq7 aN.out.std.1;refine(Rc t x Hx.out _ ?_).mono ?_
 ·exact HT1.out.below ((bRf _ w1).alloc (nlr _) _)
 rintro e w2 ⟨rfl,bD⟩;have bI:Below w1.heap.size w1 w2:=((bRf _ w1).alloc (nlr _) _).trans (bD.mono (by simp));have H2:=Lq7 (H1.out.below bI);have bN:=Lq7 (aN.out.below bI);obtain⟨s0,s1,s2,s3,s4,s5,s6,s7,s8,s9,aZ⟩:=Aa H2.out.vb;obtain⟨d0,d1,d2,d3,d4,d5,d6⟩:=Ah H2.out.fc;go_wp2_with fail;refine bodyPost_ret (v:=.tuple #[.agg #[.int .i64 2,.int .i64 x,.string ⟨#[]⟩,.slice none 0 0,.slice none 0 0],Ai 0 0 0]) (by simp[Ai,results,Tryz.results116,go_sem,s1,s2,s3,s4,s5,d1,d2,d3]) rfl ?_;have H3:=H2.out.setV (.int .i64 2) (.int .i64 x) (.string ⟨#[]⟩) (.slice none 0 0) (.slice none 0 0);have aY:=H2.out.msV bN.out (.int .i64 2) (.int .i64 x) (.string ⟨#[]⟩) (.slice none 0 0) (.slice none 0 0);exact⟨c1,(H3.setF (.int .i64 0) (.int .i64 0) (.int .i64 0)).mv,H3.msF aY (.int .i64 0) (.int .i64 0) (.int .i64 0),_,rfl,[_,_,_,_,_],rfl,Am.val_mk (l:=[]) (ks:=[]) _ _ _ _ _ (Af.nil _) (Af.nil _),Nh x (numOf_in Hx.out)⟩
theorem U7(kk:Int)(mp mb:Nat)(hv:Ec)(G:Nat->Prop)(c:Ctx)(w:World)(st:St)(t:ByteArray)(l k:Int)(kids:List Nd)(a:Option Addr)(cap:Nat)(hm:MS c w mp mb hv st)(_hG:GOk G c w)(hle:st.left<=0):
  Calls Tryz.prog 116 #[ptr mp,.agg #[.int .i64 kk,.string t,.int .i64 l,.int .i64 k,.slice a kids.length cap]] w (EP mp mb hv Mr badV c (.err 12 l k) w):=by
 have H0:=Lq7 (XB.start hm.ok #[.int .i64 kk,.string t,.int .i64 l,.int .i64 k,.slice a kids.length cap] #[.int .i64 0,.int .i64 0,.string ⟨#[]⟩,.slice none 0 0,.slice none 0 0] #[.int .i64 0,.int .i64 0,.int .i64 0]);have aC:=Lq7 (Dl c mp mb hv st l k _ (hm.below (Ch w (.cells #[.int .i64 kk,.string t,.int .i64 l,.int .i64 k,.slice a kids.length cap] 49) (.cells #[.int .i64 0,.int .i64 0,.string ⟨#[]⟩,.slice none 0 0,.slice none 0 0] 42) (.cells #[.int .i64 0,.int .i64 0,.int .i64 0] 95)).2.2.2.1));rw[show Dw l k st = .err 12 l k from if_pos hle] at aC;unfold ptr at aC |-;go_enter Tryz.func116,Tryz.ntmps116;go_wp2_with fail;refine aC.out.mono ?_;rintro e w1 ⟨c1,aB,rfl⟩;have H1:=Lq7 (H0.out.later aB);unfold Ai
 go_upto_region 3 with fail
 have aD:Below w1.heap.size w1 (w1.alloc (.cells #[.int .i64 12,.int .i64 l,.int .i64 k] 95)):=(bRf _ w1).alloc (nlr _) _;have Hf:=Lq7 (heap_alloc_new w1 (.cells #[.int .i64 12,.int .i64 l,.int .i64 k] 95));have H2:=Lq7 (H1.out.below aD);have hsz:=H1.out.size;generalize World.alloc _ _=W at H2 Hf |-;generalize w1.heap.size=fb at Hf hsz |-;refine A4 (.s 0 (.s 1 (.h 2 (.h 3 .nil)))) 99 (fun W'=>W'.heap[fb]? = some (.cells #[.int .i64 12,.int .i64 l,.int .i64 k] 95 (0,0))) Hf.out ?_;have H5:=Lq7 (H2.out.below ((bRf _ W).drew));have bX:Hid (W.drew.heap[fb]? = some (.cells #[.int .i64 12,.int .i64 l,.int .i64 k] 95 (0,0))):=Lq7 Hf.out;generalize W.drew=Wd at H5 bX |-;refine Aj (.agg #[.int .i64 0,.int .i64 0,.string ⟨#[]⟩,.slice none 0 0,.slice none 0 0]) ?_;refine Ap (.agg #[.int .i64 12,.int .i64 l,.int .i64 k]) ?_;obtain⟨s0,s1,s2,s3,s4,s5,s6,s7,s8,s9,aZ⟩:=Aa H5.out.vb;refine Ac rfl (fun Kx bE=>?_);go_wp2_with fail;have H6:=Lq7 (H5.out.setV (.int .i64 0) (.int .i64 0) (.string ⟨#[]⟩) (.slice none 0 0) (.slice none 0 0));have bT:=Lq7 ((Ba (W:=Wd) (b:=w.heap.size+1) (k:=fb) (by omega) (.int .i64 0) (.int .i64 0) (.string ⟨#[]⟩) (.slice none 0 0) (.slice none 0 0)).trans bX.out);unfold Cb at H6;refine bE _ _ (fun _=>bT.out) ?_;generalize wsC _ _ _=W6 at H6 bT |-;(try simp only[gX,aP]);obtain⟨d0,d1,d2,d3,d4,d5,d6⟩:=Ah H6.out.fc;refine Ac rfl (fun Ky bF=>?_);go_wp2_with fail;have H7:=Lq7 (H6.out.setF (.int .i64 12) (.int .i64 l) (.int .i64 k));unfold Bs at H7;refine bF _ _ (fun _=>((((Ad (by omega) 2 _).trans (Ad (by omega) 1 _)).trans (Ad (by omega) 0 _)).trans bT.out)) ?_;generalize wsC _ _ _=W7 at H7 |-;refine Ak ?_;(try simp only[gX,aP]);obtain⟨s0,s1,s2,s3,s4,s5,s6,s7,s8,s9,aZ⟩:=Aa H7.out.vb;obtain⟨d0,d1,d2,d3,d4,d5,d6⟩:=Ah H7.out.fc;go_wp2_with fail;refine bodyPost_ret (v:=badV 12 l k) (by simp[badV,zeroV,Ai,results,Tryz.results116,go_sem,s1,s2,s3,s4,s5,d1,d2,d3]) rfl ?_;exact⟨_,H7.out.mv,rfl⟩
theorem U8(mp mb:Nat)(hv:Ec)(G:Nat->Prop)(c:Ctx)(w:World)(st:St)(t:ByteArray)(l k:Int)(kids:List Nd)(a:Option Addr)(cap:Nat)(hm:MS c w mp mb hv st)(hG:GOk G c w)(hr:Af G w a (A2 kids))(hle:¬st.left<=0)(hsn:Ci (.mk 12 t l k kids))(ex:Nd->EM Vl)(hl:Fc 167 mp mb hv ex)(hne:ex (.mk 12 t l k kids) { st with left:=st.left - 1} ≠ .out):
  Calls Tryz.prog 116 #[ptr mp,.agg #[.int .i64 12,.string t,.int .i64 l,.int .i64 k,.slice a kids.length cap]] w (EP mp mb hv Mr badV c (ex (.mk 12 t l k kids) { st with left:=st.left - 1}) w):=by
 have H0:=Lq7 (XB.start hm.ok #[.int .i64 12,.string t,.int .i64 l,.int .i64 k,.slice a kids.length cap] #[.int .i64 0,.int .i64 0,.string ⟨#[]⟩,.slice none 0 0,.slice none 0 0] #[.int .i64 0,.int .i64 0,.int .i64 0]);have Hl:=Lq7 hl;have bP:=Lq7 hsn;have bG:=Lq7 hne;have aC:=Lq7 (Dl c mp mb hv st l k _ (hm.below (Ch w (.cells #[.int .i64 12,.string t,.int .i64 l,.int .i64 k,.slice a kids.length cap] 49) (.cells #[.int .i64 0,.int .i64 0,.string ⟨#[]⟩,.slice none 0 0,.slice none 0 0] 42) (.cells #[.int .i64 0,.int .i64 0,.int .i64 0] 95)).2.2.2.1));rw[show Dw l k st = .ok () { st with left:=st.left - 1} from if_neg hle] at aC;have HG:=Lq7 hG;have Hr:=Lq7 hr;unfold ptr at aC |-;go_enter Tryz.func116,Tryz.ntmps116;go_wp2_with fail;refine aC.out.mono ?_;rintro e w1 ⟨c1,aB,aM,v1,rfl,aQ⟩;obtain rfl:v1=Ai 0 0 0:=aQ;have bB:=Lq7 (HG.out.mv (H0.out.mv.trans aB));have bC:=Lq7 (Hr.out.gmv HG.out (H0.out.mv.trans aB));have H1:=Lq7 (H0.out.later aB);have aN:=Lq7 aM;unfold Ai;obtain⟨r0,r1,r2,r3,r4,r5,r6,r7,r8,r9,bH⟩:=Aa H1.out.na;have aD:Below w1.heap.size w1 (w1.alloc (.cells #[.int .i64 0,.int .i64 0,.int .i64 0] 95)):=(bRf _ w1).alloc (nlr _) _;have Hc:=Lq7 (Hl.out G c1 _ { st with left:=st.left - 1} (.mk 12 t l k kids) _ (aN.out.below aD) (bB.out.mv (.of_below c1 aD)) (A3.mk _ _ _ _ cap (bC.out.below aD)) bP.out bG.out);have H2:=Lq7 (H1.out.below aD);unfold ptr at Hc;go_wp2_with fail;refine Hc.out.mono ?_;rintro e w2 ⟨c2,aB,hq⟩;have H3:=Lq7 (H2.out.later aB);obtain⟨s0,s1,s2,s3,s4,s5,s6,s7,s8,s9,aZ⟩:=Aa H3.out.vb;obtain⟨d0,d1,d2,d3,d4,d5,d6⟩:=Ah H3.out.fc;cases hx:ex (.mk 12 t l k kids) { st with left:=st.left - 1} with
 | out=>exact absurd hx bG.out
 | err x y z=>
  rw[hx] at hq;obtain rfl:=hq;unfold badV zeroV Ai;have aE:=Lq7 hx;go_wp2_with fail;refine bodyPost_ret (v:=badV x y z) (by simp[badV,zeroV,Ai,results,Tryz.results116,go_sem,s1,s2,s3,s4,s5,d1,d2,d3]) rfl ?_;rw[aE.out];exact⟨c2,((H3.out.setV (.int .i64 0) (.int .i64 0) (.string ⟨#[]⟩) (.slice none 0 0) (.slice none 0 0)).setF (.int .i64 x) (.int .i64 y) (.int .i64 z)).mv,rfl⟩
 | ok x st2=>
  rw[hx] at hq;obtain⟨bA,v2,rfl,cs,rfl,aF,bJ⟩:=hq;obtain⟨xk,xn,xs,xl,xks⟩:=x;obtain⟨b1,e1,b2,e2,rfl,bU,bV⟩:=aF.val;have aY:=Lq7 bA;have aJ:=Lq7 aF;have bL:=Lq7 bJ;unfold Ai;have aE:=Lq7 hx;go_wp2_with fail;refine bodyPost_ret (v:=.tuple #[.agg #[.int .i64 xk,.int .i64 xn,.string xs,.slice b1 xl.length e1,.slice b2 xks.length e2],Ai 0 0 0]) (by simp[Ai,results,Tryz.results116,go_sem,s1,s2,s3,s4,s5,d1,d2,d3]) rfl ?_;have H4:=H3.out.setV (.int .i64 xk) (.int .i64 xn) (.string xs) (.slice b1 xl.length e1) (.slice b2 xks.length e2);have aH:=H3.out.msV aY.out (.int .i64 xk) (.int .i64 xn) (.string xs) (.slice b1 xl.length e1) (.slice b2 xks.length e2);have bM:=H3.out.aggV aJ.out (.int .i64 xk) (.int .i64 xn) (.string xs) (.slice b1 xl.length e1) (.slice b2 xks.length e2);rw[aE.out];exact⟨c2,(H4.setF (.int .i64 0) (.int .i64 0) (.int .i64 0)).mv,H4.msF aH (.int .i64 0) (.int .i64 0) (.int .i64 0),_,rfl,[_,_,_,_,_],rfl,H4.aggF bM (.int .i64 0) (.int .i64 0) (.int .i64 0),bL.out⟩
theorem expr_op(mp mb:Nat)(hv:Ec)(G:Nat->Prop)(c:Ctx)(w:World)(st:St)(t:ByteArray)(l k:Int)(kids:List Nd)(a:Option Addr)(cap:Nat)(hm:MS c w mp mb hv st)(hG:GOk G c w)(hr:Af G w a (A2 kids))(hle:¬st.left<=0)(hsn:Ci (.mk 16 t l k kids))(ex:Nd->EM Vl)(hl:Fc 170 mp mb hv ex)(hne:ex (.mk 16 t l k kids) { st with left:=st.left - 1} ≠ .out):
  Calls Tryz.prog 116 #[ptr mp,.agg #[.int .i64 16,.string t,.int .i64 l,.int .i64 k,.slice a kids.length cap]] w (EP mp mb hv Mr badV c (ex (.mk 16 t l k kids) { st with left:=st.left - 1}) w):=by
 have H0:=Lq7 (XB.start hm.ok #[.int .i64 16,.string t,.int .i64 l,.int .i64 k,.slice a kids.length cap] #[.int .i64 0,.int .i64 0,.string ⟨#[]⟩,.slice none 0 0,.slice none 0 0] #[.int .i64 0,.int .i64 0,.int .i64 0]);have Hl:=Lq7 hl;have bP:=Lq7 hsn;have bG:=Lq7 hne;have aC:=Lq7 (Dl c mp mb hv st l k _ (hm.below (Ch w (.cells #[.int .i64 16,.string t,.int .i64 l,.int .i64 k,.slice a kids.length cap] 49) (.cells #[.int .i64 0,.int .i64 0,.string ⟨#[]⟩,.slice none 0 0,.slice none 0 0] 42) (.cells #[.int .i64 0,.int .i64 0,.int .i64 0] 95)).2.2.2.1));rw[show Dw l k st = .ok () { st with left:=st.left - 1} from if_neg hle] at aC;have HG:=Lq7 hG;have Hr:=Lq7 hr;unfold ptr at aC |-;go_enter Tryz.func116,Tryz.ntmps116;go_wp2_with fail;refine aC.out.mono ?_;rintro e w1 ⟨c1,aB,aM,v1,rfl,aQ⟩;obtain rfl:v1=Ai 0 0 0:=aQ;have bB:=Lq7 (HG.out.mv (H0.out.mv.trans aB));have bC:=Lq7 (Hr.out.gmv HG.out (H0.out.mv.trans aB));have H1:=Lq7 (H0.out.later aB);have aN:=Lq7 aM;unfold Ai;obtain⟨r0,r1,r2,r3,r4,r5,r6,r7,r8,r9,bH⟩:=Aa H1.out.na;have aD:Below w1.heap.size w1 (w1.alloc (.cells #[.int .i64 0,.int .i64 0,.int .i64 0] 95)):=(bRf _ w1).alloc (nlr _) _;have Hc:=Lq7 (Hl.out G c1 _ { st with left:=st.left - 1} (.mk 16 t l k kids) _ (aN.out.below aD) (bB.out.mv (.of_below c1 aD)) (A3.mk _ _ _ _ cap (bC.out.below aD)) bP.out bG.out);have H2:=Lq7 (H1.out.below aD);unfold ptr at Hc;go_wp2_with fail;refine Hc.out.mono ?_;rintro e w2 ⟨c2,aB,hq⟩;have H3:=Lq7 (H2.out.later aB);obtain⟨s0,s1,s2,s3,s4,s5,s6,s7,s8,s9,aZ⟩:=Aa H3.out.vb;obtain⟨d0,d1,d2,d3,d4,d5,d6⟩:=Ah H3.out.fc;cases hx:ex (.mk 16 t l k kids) { st with left:=st.left - 1} with
 | out=>exact absurd hx bG.out
 | err x y z=>
  rw[hx] at hq;obtain rfl:=hq;unfold badV zeroV Ai;have aE:=Lq7 hx;go_wp2_with fail;refine bodyPost_ret (v:=badV x y z) (by simp[badV,zeroV,Ai,results,Tryz.results116,go_sem,s1,s2,s3,s4,s5,d1,d2,d3]) rfl ?_;rw[aE.out];exact⟨c2,((H3.out.setV (.int .i64 0) (.int .i64 0) (.string ⟨#[]⟩) (.slice none 0 0) (.slice none 0 0)).setF (.int .i64 x) (.int .i64 y) (.int .i64 z)).mv,rfl⟩
 | ok x st2=>
  rw[hx] at hq;obtain⟨bA,v2,rfl,cs,rfl,aF,bJ⟩:=hq;obtain⟨xk,xn,xs,xl,xks⟩:=x;obtain⟨b1,e1,b2,e2,rfl,bU,bV⟩:=aF.val;have aY:=Lq7 bA;have aJ:=Lq7 aF;have bL:=Lq7 bJ;unfold Ai;have aE:=Lq7 hx;go_wp2_with fail;refine bodyPost_ret (v:=.tuple #[.agg #[.int .i64 xk,.int .i64 xn,.string xs,.slice b1 xl.length e1,.slice b2 xks.length e2],Ai 0 0 0]) (by simp[Ai,results,Tryz.results116,go_sem,s1,s2,s3,s4,s5,d1,d2,d3]) rfl ?_;have H4:=H3.out.setV (.int .i64 xk) (.int .i64 xn) (.string xs) (.slice b1 xl.length e1) (.slice b2 xks.length e2);have aH:=H3.out.msV aY.out (.int .i64 xk) (.int .i64 xn) (.string xs) (.slice b1 xl.length e1) (.slice b2 xks.length e2);have bM:=H3.out.aggV aJ.out (.int .i64 xk) (.int .i64 xn) (.string xs) (.slice b1 xl.length e1) (.slice b2 xks.length e2);rw[aE.out];exact⟨c2,(H4.setF (.int .i64 0) (.int .i64 0) (.int .i64 0)).mv,H4.msF aH (.int .i64 0) (.int .i64 0) (.int .i64 0),_,rfl,[_,_,_,_,_],rfl,H4.aggF bM (.int .i64 0) (.int .i64 0) (.int .i64 0),bL.out⟩
theorem S1(mp mb hv G c w st t l k kids a cap)(hm:MS c w mp mb hv st)(hG:GOk G c w)(hr:Af G w a (A2 kids))(hle:¬st.left<=0)(x)(hx:C0 t=some x):
  Calls Tryz.prog 116 #[ptr mp,.agg #[.int .i64 9,.string t,.int .i64 l,.int .i64 k,.slice a kids.length cap]] w (EP mp mb hv Mr badV c (.ok x { st with left:=st.left - 1}) w):=by
 have H0:=Lq7 (XB.start hm.ok #[.int .i64 9,.string t,.int .i64 l,.int .i64 k,.slice a kids.length cap] #[.int .i64 0,.int .i64 0,.string ⟨#[]⟩,.slice none 0 0,.slice none 0 0] #[.int .i64 0,.int .i64 0,.int .i64 0]);have Hx:=Lq7 hx;have aC:=Lq7 (Dl c mp mb hv st l k _ (hm.below (Ch w (.cells #[.int .i64 9,.string t,.int .i64 l,.int .i64 k,.slice a kids.length cap] 49) (.cells #[.int .i64 0,.int .i64 0,.string ⟨#[]⟩,.slice none 0 0,.slice none 0 0] 42) (.cells #[.int .i64 0,.int .i64 0,.int .i64 0] 95)).2.2.2.1));rw[show Dw l k st = .ok () { st with left:=st.left - 1} from if_neg hle] at aC;have HG:=Lq7 hG;have Hr:=Lq7 hr;unfold ptr at aC |-;go_enter Tryz.func116,Tryz.ntmps116;go_wp2_with fail;refine aC.out.mono ?_;rintro e w1 ⟨c1,aB,aM,v1,rfl,aQ⟩;obtain rfl:v1=Ai 0 0 0:=aQ;have bB:=Lq7 (HG.out.mv (H0.out.mv.trans aB));have bC:=Lq7 (Hr.out.gmv HG.out (H0.out.mv.trans aB));have H1:=Lq7 (H0.out.later aB);have aN:=Lq7 aM;unfold Ai;obtain⟨r0,r1,r2,r3,r4,r5,r6,r7,r8,r9,bH⟩:=Aa H1.out.na;have aD:Below w1.heap.size w1 (w1.alloc (.cells #[.int .i64 0,.int .i64 0,.int .i64 0] 95)):=(bRf _ w1).alloc (nlr _) _;have H2:=Lq7 (H1.out.below aD);have bN:=Lq7 (aN.out.below aD);go_wp2_with fail;refine(Hu t _).mono ?_;rintro e w2 ⟨cs,rfl,bD,hag,-,x0,x1,x2,rfl⟩;rw[show(C0 t).isSome=true by rw[Hx.out];rfl];have Hag:=Lq7 (hag x Hx.out c1.F);have H3:=Lq7 (H2.out.below bD);have aY:=Lq7 (bN.out.below bD);obtain⟨s0,s1,s2,s3,s4,s5,s6,s7,s8,s9,aZ⟩:=Aa H3.out.vb;obtain⟨d0,d1,d2,d3,d4,d5,d6⟩:=Ah H3.out.fc;go_wp2_with fail;refine bodyPost_ret (v:=.tuple #[.agg #[.int .i64 x0,.int .i64 x1,.string x2,.slice none 0 0,.slice none 0 0],Ai 0 0 0]) (by simp[Ai,results,Tryz.results116,go_sem,s0,s1,s2,s3,s4,s5,d0,d1,d2,d3]) rfl ?_;have H4:=H3.out.setV (.int .i64 x0) (.int .i64 x1) (.string x2) (.slice none 0 0) (.slice none 0 0);have aH:=H3.out.msV aY.out (.int .i64 x0) (.int .i64 x1) (.string x2) (.slice none 0 0) (.slice none 0 0);have bM:=H3.out.aggV Hag.out (.int .i64 x0) (.int .i64 x1) (.string x2) (.slice none 0 0) (.slice none 0 0);have H5:=H4.setF (.int .i64 0) (.int .i64 0) (.int .i64 0);have aG:=H4.msF aH (.int .i64 0) (.int .i64 0) (.int .i64 0);have Ha5:=H4.aggF bM (.int .i64 0) (.int .i64 0) (.int .i64 0);have bQ:=fun(W:World)=>(bRf _ W).alloc (nlr _) (.cells #[.int .i64 x0,.int .i64 x1,.string x2,.slice none 0 0,.slice none 0 0] 42);exact⟨c1,(H5.below (bQ _)).mv,aG.below (bQ _),_,rfl,[_,_,_,_,_],rfl,Ha5.below (bQ _),Rd Hx.out⟩
theorem S2(mp mb hv G c w st t l k kids a cap)(hm:MS c w mp mb hv st)(hG:GOk G c w)(hr:Af G w a (A2 kids))(hle:¬st.left<=0)(ht:t.size<=maxLen)(hfx:C0 t=none)(x)(hx:C9 st.names t=some x):
  Calls Tryz.prog 116 #[ptr mp,.agg #[.int .i64 9,.string t,.int .i64 l,.int .i64 k,.slice a kids.length cap]] w (EP mp mb hv Mr badV c (.ok x { st with left:=st.left - 1}) w):=by
 have H0:=Lq7 (XB.start hm.ok #[.int .i64 9,.string t,.int .i64 l,.int .i64 k,.slice a kids.length cap] #[.int .i64 0,.int .i64 0,.string ⟨#[]⟩,.slice none 0 0,.slice none 0 0] #[.int .i64 0,.int .i64 0,.int .i64 0]);have Hx:=Lq7 hx;have Ht:=Lq7 ht;have bW:=Lq7 hfx;have aC:=Lq7 (Dl c mp mb hv st l k _ (hm.below (Ch w (.cells #[.int .i64 9,.string t,.int .i64 l,.int .i64 k,.slice a kids.length cap] 49) (.cells #[.int .i64 0,.int .i64 0,.string ⟨#[]⟩,.slice none 0 0,.slice none 0 0] 42) (.cells #[.int .i64 0,.int .i64 0,.int .i64 0] 95)).2.2.2.1));rw[show Dw l k st = .ok () { st with left:=st.left - 1} from if_neg hle] at aC;have HG:=Lq7 hG;have Hr:=Lq7 hr;unfold ptr at aC |-;go_enter Tryz.func116,Tryz.ntmps116;go_wp2_with fail;refine aC.out.mono ?_;rintro e w1 ⟨c1,aB,aM,v1,rfl,aQ⟩;obtain rfl:v1=Ai 0 0 0:=aQ;have bB:=Lq7 (HG.out.mv (H0.out.mv.trans aB));have bC:=Lq7 (Hr.out.gmv HG.out (H0.out.mv.trans aB));have H1:=Lq7 (H0.out.later aB);have aN:=Lq7 aM;unfold Ai;obtain⟨r0,r1,r2,r3,r4,r5,r6,r7,r8,r9,bH⟩:=Aa H1.out.na;have aD:Below w1.heap.size w1 (w1.alloc (.cells #[.int .i64 0,.int .i64 0,.int .i64 0] 95)):=(bRf _ w1).alloc (nlr _) _;have H2:=Lq7 (H1.out.below aD);have bN:=Lq7 (aN.out.below aD);go_wp2_with fail;refine(Hu t _).mono ?_;rintro e w2 ⟨cs,rfl,bD,-,-,x0,x1,x2,rfl⟩;rw[show(C0 t).isSome=false by rw[bW.out];rfl];have H3:=Lq7 (H2.out.below bD);have aY:=Lq7 (bN.out.below bD)
 go_upto_region 9 with fail
 have bI:Below w2.heap.size w2 (w2.alloc (.cells #[.int .i64 x0,.int .i64 x1,.string x2,.slice none 0 0,.slice none 0 0] 42)):=(bRf _ w2).alloc (nlr _) _;have H4:=Lq7 (H3.out.below bI);have aH:=Lq7 (aY.out.below bI);generalize World.alloc _ _=W at H4 aH |-;rcases aH.out.look_all t Ht.out with⟨h1,-⟩|⟨x',cs',h1,aF,bJ,hlk⟩
 ·rw[Hx.out] at h1;cases h1
 obtain rfl:x=x':=(by rw[Hx.out] at h1;cases h1;rfl);obtain⟨xk,xn,xs,xl,xks⟩:=x;obtain⟨b1,e1,b2,e2,rfl,-,-⟩:=aF.val;have bS:=Lq7 hlk;have aJ:=Lq7 aF;have bL:=Lq7 bJ;refine A4 (.s 0 (.s 1 (.s 2 (.s 3 (.s 4 (.s 5 (.s 6 (.s 7 (.s 8 (.s 9 (.h 10 (.h 11 (.s 12 .nil))))))))))))) 99 (fun W'=>W'.heap[mp]? = some (.cells #[.map (some mb),hv.val,.int .i64 (st.left - 1)] 93 (0,0))/\W'.heap[w.heap.size]? = some (.cells #[.int .i64 9,.string t,.int .i64 l,.int .i64 k,.slice a kids.length cap] 49 (0,0))/\W'.heap[mb]? = W.heap[mb]?) ⟨aH.out.head,H4.out.na,rfl⟩ ?_;have H5:=Lq7 (H4.out.below ((bRf _ W).drew));have aG:=Lq7 (aH.out.below ((bRf _ W).drew));have aR:=aG.out.head;have aU:W.drew.heap[mb]? = W.heap[mb]?:=rfl;have bR:=Lq7 (aJ.out.below ((bRf _ W).drew));generalize W.drew=Wd at H5 aG aR aU bR |-;refine Ap (.pointer (some ⟨mp,0,none⟩)) ?_;refine Ap (.pointer (some ⟨mp,0,none⟩)) ?_;refine Ap (.pointer (some ⟨mp,0,none⟩)) ?_;refine A9 (.map (some mb)) (fun W' hS=>?_) ?_
 ·obtain⟨s0,s1,s2,s3,s4,s5,s6⟩:=Ah hS.1;go_simp
 refine Ap (.pointer (some ⟨w.heap.size,1,none⟩)) ?_;refine A9 (.string t) (fun W' hS=>?_) ?_
 ·obtain⟨s0,s1,s2,s3,s4,s5,s6,s7,s8,s9,aZ⟩:=Aa hS.2.1;go_simp
 refine A9 (.tuple #[.agg #[.int .i64 xk,.int .i64 xn,.string xs,.slice b1 xl.length e1,.slice b2 xks.length e2],.bool true]) (fun W' hS=>?_) ?_
 ·have hl:=bS.out W' hS.2.2;go_simp
 refine Ap (.tuple #[.agg #[.int .i64 xk,.int .i64 xn,.string xs,.slice b1 xl.length e1,.slice b2 xks.length e2],.bool true]) ?_;refine Ap (.agg #[.int .i64 xk,.int .i64 xn,.string xs,.slice b1 xl.length e1,.slice b2 xks.length e2]) ?_;refine Ap (.bool true) ?_;refine Ac rfl (fun Kx bE=>?_);go_wp2_with fail;have aW:Below Wd.heap.size Wd (Wd.alloc (.cells #[.int .i64 0,.int .i64 0,.string ⟨#[]⟩,.slice none 0 0,.slice none 0 0] 42)):=(bRf _ Wd).alloc (nlr _) _;refine bE _ _ (fun _=>⟨(aW.block _ (aG.out.ok.ml _ aG.out.hm)).trans aR,(aW.block _ (by have:=H5.out.size;omega)).trans H5.out.na,(aW.block _ (aG.out.ok.ml _ aG.out.hb)).trans aU⟩) ?_;(try simp only[gX,aP]);refine Ac rfl (fun Ky bF=>?_);go_wp2_with fail;have aW:∀o,Below Wd.heap.size Wd (Wd.alloc o):=fun o=>(bRf _ Wd).alloc (nlr _) _;refine bF _ _ (fun _=>⟨((aW _).block _ (aG.out.ok.ml _ aG.out.hm)).trans aR,((aW _).block _ (by have:=H5.out.size;omega)).trans H5.out.na,((aW _).block _ (aG.out.ok.ml _ aG.out.hb)).trans aU⟩) ?_;(try simp only[gX,aP]);refine Aw (.bool true) rfl rfl (fun W' hS=>?_) ?_
 ·clear hS;go_simp
 refine Ak ?_;(try simp only[gX,aP]);obtain⟨s0,s1,s2,s3,s4,s5,s6,s7,s8,s9,aZ⟩:=Aa H5.out.vb;obtain⟨d0,d1,d2,d3,d4,d5,d6⟩:=Ah H5.out.fc;go_wp2_with fail;refine bodyPost_ret (v:=.tuple #[.agg #[.int .i64 xk,.int .i64 xn,.string xs,.slice b1 xl.length e1,.slice b2 xks.length e2],Ai 0 0 0]) (by simp[Ai,results,Tryz.results116,go_sem,s0,s1,s2,s3,s4,s5,d0,d1,d2,d3]) rfl ?_;have H6:=H5.out.setV (.int .i64 xk) (.int .i64 xn) (.string xs) (.slice b1 xl.length e1) (.slice b2 xks.length e2);have Hm6:=H5.out.msV aG.out (.int .i64 xk) (.int .i64 xn) (.string xs) (.slice b1 xl.length e1) (.slice b2 xks.length e2);have Ha6:=H5.out.aggV bR.out (.int .i64 xk) (.int .i64 xn) (.string xs) (.slice b1 xl.length e1) (.slice b2 xks.length e2);have H7:=H6.setF (.int .i64 0) (.int .i64 0) (.int .i64 0);have Hm7:=H6.msF Hm6 (.int .i64 0) (.int .i64 0) (.int .i64 0);have Ha7:=H6.aggF Ha6 (.int .i64 0) (.int .i64 0) (.int .i64 0);have bQ:=fun(W:World)=>(bRf _ W).alloc (nlr _) (.cells #[.int .i64 xk,.int .i64 xn,.string xs,.slice b1 xl.length e1,.slice b2 xks.length e2] 42);exact⟨c1,(H7.below (bQ _)).mv,Hm7.below (bQ _),_,rfl,[_,_,_,_,_],rfl,Ha7.below (bQ _),bL.out⟩
theorem Qb(mp mb hv G c w st t l k kids a cap)(hm:MS c w mp mb hv st)(hG:GOk G c w)(hr:Af G w a (A2 kids))(hle:¬st.left<=0)(ht:t.size<=maxLen)(hfx:C0 t=none)(hx:C9 st.names t=none):
  Calls Tryz.prog 116 #[ptr mp,.agg #[.int .i64 9,.string t,.int .i64 l,.int .i64 k,.slice a kids.length cap]] w (EP mp mb hv Mr badV c (.err 7 l k) w):=by
 have H0:=Lq7 (XB.start hm.ok #[.int .i64 9,.string t,.int .i64 l,.int .i64 k,.slice a kids.length cap] #[.int .i64 0,.int .i64 0,.string ⟨#[]⟩,.slice none 0 0,.slice none 0 0] #[.int .i64 0,.int .i64 0,.int .i64 0]);have Hx:=Lq7 hx;have Ht:=Lq7 ht;have bW:=Lq7 hfx;clear hx ht hfx;have aC:=Lq7 (Dl c mp mb hv st l k _ (hm.below (Ch w (.cells #[.int .i64 9,.string t,.int .i64 l,.int .i64 k,.slice a kids.length cap] 49) (.cells #[.int .i64 0,.int .i64 0,.string ⟨#[]⟩,.slice none 0 0,.slice none 0 0] 42) (.cells #[.int .i64 0,.int .i64 0,.int .i64 0] 95)).2.2.2.1));rw[show Dw l k st = .ok () { st with left:=st.left - 1} from if_neg hle] at aC;have HG:=Lq7 hG;have Hr:=Lq7 hr;clear hm hG hr hle;unfold ptr at aC |-;go_enter Tryz.func116,Tryz.ntmps116;go_wp2_with fail;refine aC.out.mono ?_;rintro e w1 ⟨c1,aB,aM,v1,rfl,aQ⟩;obtain rfl:v1=Ai 0 0 0:=aQ;have bB:=Lq7 (HG.out.mv (H0.out.mv.trans aB));have bC:=Lq7 (Hr.out.gmv HG.out (H0.out.mv.trans aB));have H1:=Lq7 (H0.out.later aB);have aN:=Lq7 aM;clear aB aM aC H0 HG Hr;unfold Ai;obtain⟨r0,r1,r2,r3,r4,r5,r6,r7,r8,r9,bH⟩:=Aa H1.out.na;have aD:Below w1.heap.size w1 (w1.alloc (.cells #[.int .i64 0,.int .i64 0,.int .i64 0] 95)):=(bRf _ w1).alloc (nlr _) _;have H2:=Lq7 (H1.out.below aD);have bN:=Lq7 (aN.out.below aD);clear aD H1 aN;go_wp2_with fail;refine(Hu t _).mono ?_;rintro e w2 ⟨cs,rfl,bD,-,-,x0,x1,x2,rfl⟩;rw[show(C0 t).isSome=false by rw[bW.out];rfl];have H3:=Lq7 (H2.out.below bD);have aY:=Lq7 (bN.out.below bD);clear bD H2 bN r0 r1 r2 r3 r4 r5 r6 r7 r8 r9 bH
 go_upto_region 9 with fail
 have bI:Below w2.heap.size w2 (w2.alloc (.cells #[.int .i64 x0,.int .i64 x1,.string x2,.slice none 0 0,.slice none 0 0] 42)):=(bRf _ w2).alloc (nlr _) _;have H4:=Lq7 (H3.out.below bI);have aH:=Lq7 (aY.out.below bI);generalize World.alloc _ _=W at H4 aH |-;clear bI H3 aY;rcases aH.out.look_all t Ht.out with⟨-,hlk⟩|⟨x',cs',h1,-,-,-⟩
 case inr=>rw[Hx.out] at h1;cases h1
 have bS:=Lq7 hlk;clear hlk;unfold zeroV at bS;refine A4 (.s 0 (.s 1 (.s 2 (.s 3 (.s 4 (.s 5 (.s 6 (.s 7 (.s 8 (.s 9 (.h 10 (.h 11 (.s 12 .nil))))))))))))) 99 (fun W'=>W'.heap[mp]? = some (.cells #[.map (some mb),hv.val,.int .i64 (st.left - 1)] 93 (0,0))/\W'.heap[w.heap.size]? = some (.cells #[.int .i64 9,.string t,.int .i64 l,.int .i64 k,.slice a kids.length cap] 49 (0,0))/\W'.heap[mb]? = W.heap[mb]?) ⟨aH.out.head,H4.out.na,rfl⟩ ?_;have H5:=Lq7 (H4.out.below ((bRf _ W).drew));have aG:=Lq7 (aH.out.below ((bRf _ W).drew));have aR:=aG.out.head;have aU:W.drew.heap[mb]? = W.heap[mb]?:=rfl;generalize W.drew=Wd at H5 aG aR aU |-;clear H4 aH;refine Ap (.pointer (some ⟨mp,0,none⟩)) ?_;refine Ap (.pointer (some ⟨mp,0,none⟩)) ?_;refine Ap (.pointer (some ⟨mp,0,none⟩)) ?_;refine A9 (.map (some mb)) (fun W' hS=>?_) ?_
 ·obtain⟨s0,s1,s2,s3,s4,s5,s6⟩:=Ah hS.1;clear hS;go_simp
 refine Ap (.pointer (some ⟨w.heap.size,1,none⟩)) ?_;refine A9 (.string t) (fun W' hS=>?_) ?_
 ·obtain⟨s0,s1,s2,s3,s4,s5,s6,s7,s8,s9,aZ⟩:=Aa hS.2.1;clear hS;go_simp
 refine A9 (.tuple #[.agg #[.int .i64 0,.int .i64 0,.string ⟨#[]⟩,.slice none 0 0,.slice none 0 0],.bool false]) (fun W' hS=>?_) ?_
 ·have hl:=bS.out W' hS.2.2;clear hS;go_simp
 refine Ap (.tuple #[.agg #[.int .i64 0,.int .i64 0,.string ⟨#[]⟩,.slice none 0 0,.slice none 0 0],.bool false]) ?_;refine Ap (.agg #[.int .i64 0,.int .i64 0,.string ⟨#[]⟩,.slice none 0 0,.slice none 0 0]) ?_;refine Ap (.bool false) ?_;refine Ac rfl (fun Kx bE=>?_);go_wp2_with fail;have aW:Below Wd.heap.size Wd (Wd.alloc (.cells #[.int .i64 0,.int .i64 0,.string ⟨#[]⟩,.slice none 0 0,.slice none 0 0] 42)):=(bRf _ Wd).alloc (nlr _) _;refine bE _ _ (fun _=>⟨(aW.block _ (aG.out.ok.ml _ aG.out.hm)).trans aR,(aW.block _ (by have:=H5.out.size;omega)).trans H5.out.na,(aW.block _ (aG.out.ok.ml _ aG.out.hb)).trans aU⟩) ?_;clear aW bE;(try simp only[gX,aP]);refine Ac rfl (fun Ky bF=>?_);go_wp2_with fail;have aW:∀o,Below Wd.heap.size Wd (Wd.alloc o):=fun o=>(bRf _ Wd).alloc (nlr _) _;refine bF _ _ (fun _=>⟨((aW _).block _ (aG.out.ok.ml _ aG.out.hm)).trans aR,((aW _).block _ (by have:=H5.out.size;omega)).trans H5.out.na,((aW _).block _ (aG.out.ok.ml _ aG.out.hb)).trans aU⟩) ?_;clear bF aW;(try simp only[gX,aP]);refine Aw (.bool false) rfl rfl (fun W' hS=>?_) ?_
 ·clear hS;go_simp
 refine Ak ?_;(try simp only[gX,aP]);have H6:=Lq7 (H5.out.below ((bRf _ Wd).alloc (nlr _) (.cells #[.int .i64 0,.int .i64 0,.string ⟨#[]⟩,.slice none 0 0,.slice none 0 0] 42)));generalize World.alloc _ _=Wb at H6 |-;clear H5 aG aR aU
 go_upto_region 11 with fail
 refine A4 (.s 0 (.s 1 (.s 2 (.s 3 (.h 4 (.h 5 .nil)))))) 99 (fun W'=>W'.heap[w.heap.size]? = some (.cells #[.int .i64 9,.string t,.int .i64 l,.int .i64 k,.slice a kids.length cap] 49 (0,0))) H6.out.na ?_;have H7:=Lq7 (H6.out.below ((bRf _ Wb).drew));generalize Wb.drew=Wd2 at H7 |-;clear H6;refine Aj (.agg #[.int .i64 0,.int .i64 0,.string ⟨#[]⟩,.slice none 0 0,.slice none 0 0]) ?_;refine Aj (.pointer (some ⟨w.heap.size,2,none⟩)) ?_;refine Ap (.agg #[.int .i64 l,.int .i64 k]) ?_;refine Aj (.agg #[.int .i64 7,.int .i64 l,.int .i64 k]) ?_;obtain⟨s0,s1,s2,s3,s4,s5,s6,s7,s8,s9,aZ⟩:=Aa H7.out.vb;refine Ac rfl (fun Kx bE=>?_);go_wp2_with fail;have H8:=Lq7 (H7.out.setV (.int .i64 0) (.int .i64 0) (.string ⟨#[]⟩) (.slice none 0 0) (.slice none 0 0));unfold Cb at H8;refine bE _ _ (fun _=>H8.out.na) ?_;generalize wsC _ _ _=W8 at H8 |-;(try simp only[gX,aP]);clear s0 s1 s2 s3 s4 s5 s6 s7 s8 s9 aZ bE H7;obtain⟨d0,d1,d2,d3,d4,d5,d6⟩:=Ah H8.out.fc;refine Ac rfl (fun Ky bF=>?_);go_wp2_with fail;have H9:=Lq7 (H8.out.setF (.int .i64 7) (.int .i64 l) (.int .i64 k));unfold Bs at H9;refine bF _ _ (fun _=>H9.out.na) ?_;generalize wsC _ _ _=W9 at H9 |-;refine Ak ?_;(try simp only[gX,aP]);clear d0 d1 d2 d3 d4 d5 d6 bF H8;obtain⟨s0,s1,s2,s3,s4,s5,s6,s7,s8,s9,aZ⟩:=Aa H9.out.vb;obtain⟨d0,d1,d2,d3,d4,d5,d6⟩:=Ah H9.out.fc;go_wp2_with fail;refine bodyPost_ret (v:=badV 7 l k) (by simp[badV,zeroV,Ai,results,Tryz.results116,go_sem,s1,s2,s3,s4,s5,d1,d2,d3]) rfl ?_;exact⟨_,H9.out.mv,rfl⟩
theorem U9(mp mb:Nat)(hv:Ec)(G:Nat->Prop)(c:Ctx)(w:World)(st:St)(t:ByteArray)(l k:Int)(kids:List Nd)(a:Option Addr)(cap:Nat)(hm:MS c w mp mb hv st)(hG:GOk G c w)(hr:Af G w a (A2 kids))(hle:¬st.left<=0)(hsn:Ci (.mk 14 t l k kids))(ex:Nd->EM Vl)(hl:Fc 169 mp mb hv ex)(hne:ex (.mk 14 t l k kids) { st with left:=st.left - 1} ≠ .out):
  Calls Tryz.prog 116 #[ptr mp,.agg #[.int .i64 14,.string t,.int .i64 l,.int .i64 k,.slice a kids.length cap]] w (EP mp mb hv Mr badV c (ex (.mk 14 t l k kids) { st with left:=st.left - 1}) w):=by
 have H0:=Lq7 (XB.start hm.ok #[.int .i64 14,.string t,.int .i64 l,.int .i64 k,.slice a kids.length cap] #[.int .i64 0,.int .i64 0,.string ⟨#[]⟩,.slice none 0 0,.slice none 0 0] #[.int .i64 0,.int .i64 0,.int .i64 0]);have Hl:=Lq7 hl;have bP:=Lq7 hsn;have bG:=Lq7 hne;have aC:=Lq7 (Dl c mp mb hv st l k _ (hm.below (Ch w (.cells #[.int .i64 14,.string t,.int .i64 l,.int .i64 k,.slice a kids.length cap] 49) (.cells #[.int .i64 0,.int .i64 0,.string ⟨#[]⟩,.slice none 0 0,.slice none 0 0] 42) (.cells #[.int .i64 0,.int .i64 0,.int .i64 0] 95)).2.2.2.1));rw[show Dw l k st = .ok () { st with left:=st.left - 1} from if_neg hle] at aC;have HG:=Lq7 hG;have Hr:=Lq7 hr;unfold ptr at aC |-;go_enter Tryz.func116,Tryz.ntmps116;go_wp2_with fail;refine aC.out.mono ?_;rintro e w1 ⟨c1,aB,aM,v1,rfl,aQ⟩;obtain rfl:v1=Ai 0 0 0:=aQ;have bB:=Lq7 (HG.out.mv (H0.out.mv.trans aB));have bC:=Lq7 (Hr.out.gmv HG.out (H0.out.mv.trans aB));have H1:=Lq7 (H0.out.later aB);have aN:=Lq7 aM;unfold Ai;obtain⟨r0,r1,r2,r3,r4,r5,r6,r7,r8,r9,bH⟩:=Aa H1.out.na;have aD:Below w1.heap.size w1 (w1.alloc (.cells #[.int .i64 0,.int .i64 0,.int .i64 0] 95)):=(bRf _ w1).alloc (nlr _) _;have Hc:=Lq7 (Hl.out G c1 _ { st with left:=st.left - 1} (.mk 14 t l k kids) _ (aN.out.below aD) (bB.out.mv (.of_below c1 aD)) (A3.mk _ _ _ _ cap (bC.out.below aD)) bP.out bG.out);have H2:=Lq7 (H1.out.below aD);unfold ptr at Hc;go_wp2_with fail;refine Hc.out.mono ?_;rintro e w2 ⟨c2,aB,hq⟩;have H3:=Lq7 (H2.out.later aB);obtain⟨s0,s1,s2,s3,s4,s5,s6,s7,s8,s9,aZ⟩:=Aa H3.out.vb;obtain⟨d0,d1,d2,d3,d4,d5,d6⟩:=Ah H3.out.fc;cases hx:ex (.mk 14 t l k kids) { st with left:=st.left - 1} with
 | out=>exact absurd hx bG.out
 | err x y z=>
  rw[hx] at hq;obtain rfl:=hq;unfold badV zeroV Ai;have aE:=Lq7 hx;go_wp2_with fail;refine bodyPost_ret (v:=badV x y z) (by simp[badV,zeroV,Ai,results,Tryz.results116,go_sem,s1,s2,s3,s4,s5,d1,d2,d3]) rfl ?_;rw[aE.out];exact⟨c2,((H3.out.setV (.int .i64 0) (.int .i64 0) (.string ⟨#[]⟩) (.slice none 0 0) (.slice none 0 0)).setF (.int .i64 x) (.int .i64 y) (.int .i64 z)).mv,rfl⟩
 | ok x st2=>
  rw[hx] at hq;obtain⟨bA,v2,rfl,cs,rfl,aF,bJ⟩:=hq;obtain⟨xk,xn,xs,xl,xks⟩:=x;obtain⟨b1,e1,b2,e2,rfl,bU,bV⟩:=aF.val;have aY:=Lq7 bA;have aJ:=Lq7 aF;have bL:=Lq7 bJ;unfold Ai;have aE:=Lq7 hx;go_wp2_with fail;refine bodyPost_ret (v:=.tuple #[.agg #[.int .i64 xk,.int .i64 xn,.string xs,.slice b1 xl.length e1,.slice b2 xks.length e2],Ai 0 0 0]) (by simp[Ai,results,Tryz.results116,go_sem,s1,s2,s3,s4,s5,d1,d2,d3]) rfl ?_;have H4:=H3.out.setV (.int .i64 xk) (.int .i64 xn) (.string xs) (.slice b1 xl.length e1) (.slice b2 xks.length e2);have aH:=H3.out.msV aY.out (.int .i64 xk) (.int .i64 xn) (.string xs) (.slice b1 xl.length e1) (.slice b2 xks.length e2);have bM:=H3.out.aggV aJ.out (.int .i64 xk) (.int .i64 xn) (.string xs) (.slice b1 xl.length e1) (.slice b2 xks.length e2);rw[aE.out];exact⟨c2,(H4.setF (.int .i64 0) (.int .i64 0) (.int .i64 0)).mv,H4.msF aH (.int .i64 0) (.int .i64 0) (.int .i64 0),_,rfl,[_,_,_,_,_],rfl,H4.aggF bM (.int .i64 0) (.int .i64 0) (.int .i64 0),bL.out⟩
theorem Va(mp mb:Nat)(hv:Ec)(G:Nat->Prop)(c:Ctx)(w:World)(st:St)(t:ByteArray)(l k:Int)(kids:List Nd)(a:Option Addr)(cap:Nat)(hm:MS c w mp mb hv st)(hG:GOk G c w)(hr:Af G w a (A2 kids))(hle:¬st.left<=0)(hsn:Ci (.mk 13 t l k kids))(ex:Nd->EM Vl)(hl:Fc 168 mp mb hv ex)(hne:ex (.mk 13 t l k kids) { st with left:=st.left - 1} ≠ .out):
  Calls Tryz.prog 116 #[ptr mp,.agg #[.int .i64 13,.string t,.int .i64 l,.int .i64 k,.slice a kids.length cap]] w (EP mp mb hv Mr badV c (ex (.mk 13 t l k kids) { st with left:=st.left - 1}) w):=by
 have H0:=Lq7 (XB.start hm.ok #[.int .i64 13,.string t,.int .i64 l,.int .i64 k,.slice a kids.length cap] #[.int .i64 0,.int .i64 0,.string ⟨#[]⟩,.slice none 0 0,.slice none 0 0] #[.int .i64 0,.int .i64 0,.int .i64 0]);have Hl:=Lq7 hl;have bP:=Lq7 hsn;have bG:=Lq7 hne;have aC:=Lq7 (Dl c mp mb hv st l k _ (hm.below (Ch w (.cells #[.int .i64 13,.string t,.int .i64 l,.int .i64 k,.slice a kids.length cap] 49) (.cells #[.int .i64 0,.int .i64 0,.string ⟨#[]⟩,.slice none 0 0,.slice none 0 0] 42) (.cells #[.int .i64 0,.int .i64 0,.int .i64 0] 95)).2.2.2.1));rw[show Dw l k st = .ok () { st with left:=st.left - 1} from if_neg hle] at aC;have HG:=Lq7 hG;have Hr:=Lq7 hr;unfold ptr at aC |-;go_enter Tryz.func116,Tryz.ntmps116;go_wp2_with fail;refine aC.out.mono ?_;rintro e w1 ⟨c1,aB,aM,v1,rfl,aQ⟩;obtain rfl:v1=Ai 0 0 0:=aQ;have bB:=Lq7 (HG.out.mv (H0.out.mv.trans aB));have bC:=Lq7 (Hr.out.gmv HG.out (H0.out.mv.trans aB));have H1:=Lq7 (H0.out.later aB);have aN:=Lq7 aM;unfold Ai;obtain⟨r0,r1,r2,r3,r4,r5,r6,r7,r8,r9,bH⟩:=Aa H1.out.na;have aD:Below w1.heap.size w1 (w1.alloc (.cells #[.int .i64 0,.int .i64 0,.int .i64 0] 95)):=(bRf _ w1).alloc (nlr _) _;have Hc:=Lq7 (Hl.out G c1 _ { st with left:=st.left - 1} (.mk 13 t l k kids) _ (aN.out.below aD) (bB.out.mv (.of_below c1 aD)) (A3.mk _ _ _ _ cap (bC.out.below aD)) bP.out bG.out);have H2:=Lq7 (H1.out.below aD);unfold ptr at Hc;go_wp2_with fail;refine Hc.out.mono ?_;rintro e w2 ⟨c2,aB,hq⟩;have H3:=Lq7 (H2.out.later aB);obtain⟨s0,s1,s2,s3,s4,s5,s6,s7,s8,s9,aZ⟩:=Aa H3.out.vb;obtain⟨d0,d1,d2,d3,d4,d5,d6⟩:=Ah H3.out.fc;cases hx:ex (.mk 13 t l k kids) { st with left:=st.left - 1} with
 | out=>exact absurd hx bG.out
 | err x y z=>
  rw[hx] at hq;obtain rfl:=hq;unfold badV zeroV Ai;have aE:=Lq7 hx;go_wp2_with fail;refine bodyPost_ret (v:=badV x y z) (by simp[badV,zeroV,Ai,results,Tryz.results116,go_sem,s1,s2,s3,s4,s5,d1,d2,d3]) rfl ?_;rw[aE.out];exact⟨c2,((H3.out.setV (.int .i64 0) (.int .i64 0) (.string ⟨#[]⟩) (.slice none 0 0) (.slice none 0 0)).setF (.int .i64 x) (.int .i64 y) (.int .i64 z)).mv,rfl⟩
 | ok x st2=>
  rw[hx] at hq;obtain⟨bA,v2,rfl,cs,rfl,aF,bJ⟩:=hq;obtain⟨xk,xn,xs,xl,xks⟩:=x;obtain⟨b1,e1,b2,e2,rfl,bU,bV⟩:=aF.val;have aY:=Lq7 bA;have aJ:=Lq7 aF;have bL:=Lq7 bJ;unfold Ai;have aE:=Lq7 hx;go_wp2_with fail;refine bodyPost_ret (v:=.tuple #[.agg #[.int .i64 xk,.int .i64 xn,.string xs,.slice b1 xl.length e1,.slice b2 xks.length e2],Ai 0 0 0]) (by simp[Ai,results,Tryz.results116,go_sem,s1,s2,s3,s4,s5,d1,d2,d3]) rfl ?_;have H4:=H3.out.setV (.int .i64 xk) (.int .i64 xn) (.string xs) (.slice b1 xl.length e1) (.slice b2 xks.length e2);have aH:=H3.out.msV aY.out (.int .i64 xk) (.int .i64 xn) (.string xs) (.slice b1 xl.length e1) (.slice b2 xks.length e2);have bM:=H3.out.aggV aJ.out (.int .i64 xk) (.int .i64 xn) (.string xs) (.slice b1 xl.length e1) (.slice b2 xks.length e2);rw[aE.out];exact⟨c2,(H4.setF (.int .i64 0) (.int .i64 0) (.int .i64 0)).mv,H4.msF aH (.int .i64 0) (.int .i64 0) (.int .i64 0),_,rfl,[_,_,_,_,_],rfl,H4.aggF bM (.int .i64 0) (.int .i64 0) (.int .i64 0),bL.out⟩
theorem Vb(kk)(hk:kk≠9/\kk≠10/\kk≠11/\kk≠12/\kk≠13/\kk≠14/\kk≠16)(mp mb hv G c w st t l k kids a cap)(hm:MS c w mp mb hv st)(hG:GOk G c w)(hr:Af G w a (A2 kids))(hle:¬st.left<=0):
  Calls Tryz.prog 116 #[ptr mp,.agg #[.int .i64 kk,.string t,.int .i64 l,.int .i64 k,.slice a kids.length cap]] w (EP mp mb hv Mr badV c (.err 3 l k) w):=by
 have H0:=Lq7 (XB.start hm.ok #[.int .i64 kk,.string t,.int .i64 l,.int .i64 k,.slice a kids.length cap] #[.int .i64 0,.int .i64 0,.string ⟨#[]⟩,.slice none 0 0,.slice none 0 0] #[.int .i64 0,.int .i64 0,.int .i64 0]);obtain⟨g9,g10,g11,g12,g13,g14,g16⟩:=hk;have f9:(kk==9)=false:=(by simpa using g9);have f10:(kk==10)=false:=(by simpa using g10);have f11:(kk==11)=false:=(by simpa using g11);have f12:(kk==12)=false:=(by simpa using g12);have f13:(kk==13)=false:=(by simpa using g13);have f14:(kk==14)=false:=(by simpa using g14);have f16:(kk==16)=false:=(by simpa using g16);have aC:=Lq7 (Dl c mp mb hv st l k _ (hm.below (Ch w (.cells #[.int .i64 kk,.string t,.int .i64 l,.int .i64 k,.slice a kids.length cap] 49) (.cells #[.int .i64 0,.int .i64 0,.string ⟨#[]⟩,.slice none 0 0,.slice none 0 0] 42) (.cells #[.int .i64 0,.int .i64 0,.int .i64 0] 95)).2.2.2.1));rw[show Dw l k st = .ok () { st with left:=st.left - 1} from if_neg hle] at aC;have HG:=Lq7 hG;have Hr:=Lq7 hr;unfold ptr at aC |-;go_enter Tryz.func116,Tryz.ntmps116;go_wp2_with fail;refine aC.out.mono ?_;rintro e w1 ⟨c1,aB,aM,v1,rfl,aQ⟩;obtain rfl:v1=Ai 0 0 0:=aQ;have bB:=Lq7 (HG.out.mv (H0.out.mv.trans aB));have bC:=Lq7 (Hr.out.gmv HG.out (H0.out.mv.trans aB));have H1:=Lq7 (H0.out.later aB);have aN:=Lq7 aM;unfold Ai;obtain⟨r0,r1,r2,r3,r4,r5,r6,r7,r8,r9,bH⟩:=Aa H1.out.na
 go_upto_region 26 with fail
 have aD:Below w1.heap.size w1 (w1.alloc (.cells #[.int .i64 0,.int .i64 0,.int .i64 0] 95)):=(bRf _ w1).alloc (nlr _) _;have H6:=Lq7 (H1.out.below aD);generalize World.alloc _ _=Wb at H6 |-;refine A4 (.s 0 (.s 1 (.s 2 (.s 3 (.h 4 (.h 5 .nil)))))) 99 (fun W'=>W'.heap[w.heap.size]? = some (.cells #[.int .i64 kk,.string t,.int .i64 l,.int .i64 k,.slice a kids.length cap] 49 (0,0))) H6.out.na ?_;have H7:=Lq7 (H6.out.below ((bRf _ Wb).drew));generalize Wb.drew=Wd2 at H7 |-;refine Aj (.agg #[.int .i64 0,.int .i64 0,.string ⟨#[]⟩,.slice none 0 0,.slice none 0 0]) ?_;refine Aj (.pointer (some ⟨w.heap.size,2,none⟩)) ?_;refine Ap (.agg #[.int .i64 l,.int .i64 k]) ?_;refine Aj (.agg #[.int .i64 3,.int .i64 l,.int .i64 k]) ?_;obtain⟨s0,s1,s2,s3,s4,s5,s6,s7,s8,s9,aZ⟩:=Aa H7.out.vb;refine Ac rfl (fun Kx bE=>?_);go_wp2_with fail;have H8:=Lq7 (H7.out.setV (.int .i64 0) (.int .i64 0) (.string ⟨#[]⟩) (.slice none 0 0) (.slice none 0 0));unfold Cb at H8;refine bE _ _ (fun _=>H8.out.na) ?_;generalize wsC _ _ _=W8 at H8 |-;(try simp only[gX,aP]);obtain⟨d0,d1,d2,d3,d4,d5,d6⟩:=Ah H8.out.fc;refine Ac rfl (fun Ky bF=>?_);go_wp2_with fail;have H9:=Lq7 (H8.out.setF (.int .i64 3) (.int .i64 l) (.int .i64 k));unfold Bs at H9;refine bF _ _ (fun _=>H9.out.na) ?_;generalize wsC _ _ _=W9 at H9 |-;refine Ak ?_;(try simp only[gX,aP]);obtain⟨s0,s1,s2,s3,s4,s5,s6,s7,s8,s9,aZ⟩:=Aa H9.out.vb;obtain⟨d0,d1,d2,d3,d4,d5,d6⟩:=Ah H9.out.fc;go_wp2_with fail;refine bodyPost_ret (v:=badV 3 l k) (by simp[badV,zeroV,Ai,results,Tryz.results116,go_sem,s1,s2,s3,s4,s5,d1,d2,d3]) rfl ?_;exact⟨_,H9.out.mv,rfl⟩
end Go.Proofs.YtbcdimjbepigcaaGreatDoor
namespace Go.Proofs.YtbcdimjbepigcaaGreatDoor
open Go Go.RowKit
open Nat renaming le_refl->nlr,lt_of_lt_of_le->nll,le_trans->nlt
open Go.Lib renaming hid->Lq7
open Go.Act renaming put->aP
open Go.RowKit.Below renaming refl->bRf
open Go.World renaming setCell->wsC
open _root_.Array renaming getElem?_eq_some_iff->agS
set_option maxRecDepth 100000
set_option maxHeartbeats 16000000
theorem str_any(t w):
  Calls Tryz.prog 166 #[.string t] w (fun e w'=>e = .returned (.agg #[.int .i64 3,.int .i64 0,.string t,.slice none 0 0,.slice none 0 0])/\Below w.heap.size w w'):=by
 obtain⟨r0,r1,r2,r3,r4,r5,r6,r7,r8,r9,r10⟩:=Aa (heap_alloc_new w (.cells #[.int .i64 0,.int .i64 0,.string ⟨#[]⟩,.slice none 0 0,.slice none 0 0] 42));go_enter Tryz.func166,Tryz.ntmps166;go_wp2_with fail;refine bodyPost_ret (v:=.agg #[.int .i64 3,.int .i64 0,.string t,.slice none 0 0,.slice none 0 0]) (by simp[results,Tryz.results166,go_sem]) rfl ?_;exact⟨rfl,(bRf _ w).alloc (nlr _) _⟩
theorem Vg(mp mb hv G c w st t l k kids a cap)(hm:MS c w mp mb hv st)(hG:GOk G c w)(hr:Af G w a (A2 kids))(hle:¬st.left<=0)(ht:t.size<=9223372036854775807):
  Calls Tryz.prog 116 #[ptr mp,.agg #[.int .i64 11,.string t,.int .i64 l,.int .i64 k,.slice a kids.length cap]] w (EP mp mb hv Mr badV c (Di (.mk 3 0 t [] []) l k { st with left:=st.left - 1}) w):=by
 have H0:=Lq7 (XB.start hm.ok #[.int .i64 11,.string t,.int .i64 l,.int .i64 k,.slice a kids.length cap] #[.int .i64 0,.int .i64 0,.string ⟨#[]⟩,.slice none 0 0,.slice none 0 0] #[.int .i64 0,.int .i64 0,.int .i64 0]);have Hsv:Hid (A6 (.mk 3 0 t [] [])):=Lq7 (by rw[A6];exact⟨⟨ht,rfl⟩,by simp,by simp,by simp,by rw[B4];trivial⟩);have aC:=Lq7 (Dl c mp mb hv st l k _ (hm.below (Ch w (.cells #[.int .i64 11,.string t,.int .i64 l,.int .i64 k,.slice a kids.length cap] 49) (.cells #[.int .i64 0,.int .i64 0,.string ⟨#[]⟩,.slice none 0 0,.slice none 0 0] 42) (.cells #[.int .i64 0,.int .i64 0,.int .i64 0] 95)).2.2.2.1));rw[show Dw l k st = .ok () { st with left:=st.left - 1} from if_neg hle] at aC;have HG:=Lq7 hG;have Hr:=Lq7 hr;unfold ptr at aC |-;go_enter Tryz.func116,Tryz.ntmps116;go_wp2_with fail;refine aC.out.mono ?_;rintro e w1 ⟨c1,aD,hms,v1,rfl,hv1⟩;obtain rfl:v1=Ai 0 0 0:=hv1;have HG1:=Lq7 (HG.out.mv (H0.out.mv.trans aD));have Hr1:=Lq7 (Hr.out.gmv HG.out (H0.out.mv.trans aD));have H1:=Lq7 (H0.out.later aD);have Hm1:=Lq7 hms;unfold Ai;obtain⟨r0,r1,r2,r3,r4,r5,r6,r7,r8,r9,r10⟩:=Aa H1.out.na;have aM:Below w1.heap.size w1 (w1.alloc (.cells #[.int .i64 0,.int .i64 0,.int .i64 0] 95)):=(bRf _ w1).alloc (nlr _) _;have H2:=Lq7 (H1.out.below aM);have aN:=Lq7 (Hm1.out.below aM)
 go_upto_region 17 with fail
 generalize World.alloc _ _=W at H2 aN |-;refine A4 (.s 0 (.s 1 (.s 3 (.s 4 (.h 2 (.h 5 (.s 6 (.s 7 (.h 8 (.h 9 .nil)))))))))) 99 (fun W'=>W'.heap[w.heap.size]? = some (.cells #[.int .i64 11,.string t,.int .i64 l,.int .i64 k,.slice a kids.length cap] 49 (0,0))) H2.out.na ?_;have H5:=Lq7 (H2.out.below ((bRf _ W).drew));have aQ:=Lq7 (aN.out.below ((bRf _ W).drew));generalize W.drew=Wd at H5 aQ |-;refine Aj (.pointer (some ⟨w.heap.size,1,none⟩)) ?_;refine Ap (.string t) ?_;refine Aj (.pointer (some ⟨w.heap.size,2,none⟩)) ?_;refine Ap (.agg #[.int .i64 l,.int .i64 k]) ?_;refine Ac rfl (fun Kx hKx=>?_);go_wp2_with fail;refine(str_any t _).mono ?_;rintro e w3 ⟨rfl,aR⟩;have H6:=Lq7 (H5.out.below aR);have aU:=Lq7 (aQ.out.below aR);go_wp2_with fail;refine hKx _ _ (fun _=>H6.out.na) ?_;(try simp only[gX,aP]);have hag:Am c1.F w3 (valD (.mk 3 0 t [] [])) [.int .i64 3,.int .i64 0,.string t,.slice none 0 0,.slice none 0 0]:=Am.val_mk (l:=[]) (ks:=[]) _ _ _ _ _ (Af.nil _) (Af.nil _);have Hmd:=Lq7 (Nf (.mk 3 0 t [] []) Hsv.out c1.F _ l k w3 aU.out.ok.fl hag);refine Ac rfl (fun Ky aW=>?_);go_wp2_with fail;refine Hmd.out.mono ?_;rintro e w4 ⟨aY,rfl⟩;have H7:=Lq7 (H6.out.below aY);have Hm7:=Lq7 (aU.out.below aY);by_cases hck:A0 (.mk 3 0 t [] [])=true
 ·rw[if_pos hck];have Hck:=Lq7 hck;have aB:Hid (Di (.mk 3 0 t [] []) l k { st with left:=st.left - 1} = .ok (.mk 3 0 t [] []) { st with left:=st.left - 1}):=Lq7 (by unfold Di;rw[if_pos hck];rfl);unfold Ai;go_wp2_with fail;refine aW _ _ (fun _=>H7.out.na) ?_;(try simp only[gX,aP]);refine Aj (.agg #[.int .i64 3,.int .i64 0,.string t,.slice none 0 0,.slice none 0 0]) ?_;refine Aj (.agg #[.int .i64 0,.int .i64 0,.int .i64 0]) ?_;obtain⟨s0,s1,s2,s3,s4,s5,s6,s7,s8,s9,aE⟩:=Aa H7.out.vb;refine Ac rfl (fun Kv aF=>?_);go_wp2_with fail;have H8:=Lq7 (H7.out.setV (.int .i64 3) (.int .i64 0) (.string t) (.slice none 0 0) (.slice none 0 0));have aG:=Lq7 (H7.out.msV Hm7.out (.int .i64 3) (.int .i64 0) (.string t) (.slice none 0 0) (.slice none 0 0));unfold Cb at H8 aG;refine aF _ _ (fun _=>H8.out.na) ?_;generalize wsC _ _ _=W8 at H8 aG |-;(try simp only[gX,aP]);obtain⟨d0,d1,d2,d3,d4,d5,d6⟩:=Ah H8.out.fc;refine Ac rfl (fun Kf aH=>?_);go_wp2_with fail;have H9:=Lq7 (H8.out.setF (.int .i64 0) (.int .i64 0) (.int .i64 0));have aJ:=Lq7 (H8.out.msF aG.out (.int .i64 0) (.int .i64 0) (.int .i64 0));unfold Bs at H9 aJ;refine aH _ _ (fun _=>H9.out.na) ?_;generalize wsC _ _ _=W9 at H9 aJ |-;refine Ak ?_;(try simp only[gX,aP]);obtain⟨s0,s1,s2,s3,s4,s5,s6,s7,s8,s9,aE⟩:=Aa H9.out.vb;obtain⟨d0,d1,d2,d3,d4,d5,d6⟩:=Ah H9.out.fc;go_wp2_with fail;refine bodyPost_ret (v:=.tuple #[.agg #[.int .i64 3,.int .i64 0,.string t,.slice none 0 0,.slice none 0 0],Ai 0 0 0]) (by simp[Ai,results,Tryz.results116,go_sem,s1,s2,s3,s4,s5,d1,d2,d3]) rfl ?_;rw[aB.out];exact⟨c1,H9.out.mv,aJ.out,_,rfl,[_,_,_,_,_],rfl,Am.val_mk (l:=[]) (ks:=[]) _ _ _ _ _ (Af.nil _) (Af.nil _),Hck.out⟩
 ·rw[if_neg hck];have aB:Hid (Di (.mk 3 0 t [] []) l k { st with left:=st.left - 1} = .err 6 l k):=Lq7 (by unfold Di;rw[if_neg hck];rfl);unfold badV zeroV Ai;go_wp2_with fail;refine aW _ _ (fun _=>H7.out.na) ?_;(try simp only[gX,aP]);refine Aj (.agg #[.int .i64 0,.int .i64 0,.string ⟨#[]⟩,.slice none 0 0,.slice none 0 0]) ?_;refine Aj (.agg #[.int .i64 6,.int .i64 l,.int .i64 k]) ?_;obtain⟨s0,s1,s2,s3,s4,s5,s6,s7,s8,s9,aE⟩:=Aa H7.out.vb;refine Ac rfl (fun Kv aF=>?_);go_wp2_with fail;have H8:=Lq7 (H7.out.setV (.int .i64 0) (.int .i64 0) (.string ⟨#[]⟩) (.slice none 0 0) (.slice none 0 0));unfold Cb at H8;refine aF _ _ (fun _=>H8.out.na) ?_;generalize wsC _ _ _=W8 at H8 |-;(try simp only[gX,aP]);obtain⟨d0,d1,d2,d3,d4,d5,d6⟩:=Ah H8.out.fc;refine Ac rfl (fun Kf aH=>?_);go_wp2_with fail;have H9:=Lq7 (H8.out.setF (.int .i64 6) (.int .i64 l) (.int .i64 k));unfold Bs at H9;refine aH _ _ (fun _=>H9.out.na) ?_;generalize wsC _ _ _=W9 at H9 |-;refine Ak ?_;(try simp only[gX,aP]);obtain⟨s0,s1,s2,s3,s4,s5,s6,s7,s8,s9,aE⟩:=Aa H9.out.vb;obtain⟨d0,d1,d2,d3,d4,d5,d6⟩:=Ah H9.out.fc;go_wp2_with fail;refine bodyPost_ret (v:=badV 6 l k) (by simp[badV,zeroV,Ai,results,Tryz.results116,go_sem,s1,s2,s3,s4,s5,d1,d2,d3]) rfl ?_;rw[aB.out];exact⟨_,H9.out.mv,rfl⟩
def Ni(ex:Nd->EM Vl)(n:Nd):EM Vl:=EM.bind (Gv ex n.kids []) fun l=>Di (.mk 4 0 ⟨#[]⟩ l []) n.ln n.cl
theorem S3{ans ex st kk l k t kids}(hle:st.left<=0):Mb ans ex (.mk kk t l k kids) st = .err 12 l k:=
 Cf (if_pos hle)
theorem eExpr_go{ans ex st kk l k t kids}(hle:¬st.left<=0):Mb ans ex (.mk kk t l k kids) st =
  (if kk=9 then
   match C0 t with
   | some v=> .ok v { st with left:=st.left - 1}
   | none=>match C9 st.names t with
    | some v=> .ok v { st with left:=st.left - 1}
    | none=> .err 7 l k
  else if kk=10 then match Ja t with
   | some x=> .ok (.mk 2 x ⟨#[]⟩ [] []) { st with left:=st.left - 1}
   | none=> .out
  else if kk=12 then Ni ex (.mk kk t l k kids) { st with left:=st.left - 1}
  else if kk=16 then eOp ex (.mk kk t l k kids) { st with left:=st.left - 1}
  else if kk=11 then Di (.mk 3 0 t [] []) l k { st with left:=st.left - 1}
  else if kk=14 then O9 ans ex (.mk kk t l k kids) { st with left:=st.left - 1}
  else if kk=13 then Nl ex (.mk kk t l k kids) { st with left:=st.left - 1}
  else .err 3 l k):=
 Dv (if_neg hle)
theorem Vc{mp mb hv ex}(hl:Fc 167 mp mb hv (Ni ex))(ho:Fc 170 mp mb hv (eOp ex))(hc:Fc 169 mp mb hv (O9 hv.ans ex))(hd:Fc 168 mp mb hv (Nl ex)):
  Fc 116 mp mb hv (Mb hv.ans ex):=by
 intro G c w st n v hm hG hn aC aB;obtain⟨kk,t,l,k,kids⟩:=n;obtain⟨a,cap,rfl,hr⟩:=hn.open;by_cases hle:st.left<=0
 ·rw[S3 hle];exact U7 kk mp mb hv G c w st t l k kids a cap hm hG hle
 rw[eExpr_go hle] at aB |-;by_cases h9:kk=9
 ·subst h9;rw[if_pos rfl];cases hf:C0 t with
  | some x=>exact S1 mp mb hv G c w st t l k kids a cap hm hG hr hle x hf
  | none=>
   rw[Ci] at aC;cases hx:C9 st.names t with
   | some x=>exact S2 mp mb hv G c w st t l k kids a cap hm hG hr hle aC.1 hf x hx
   | none=>exact Qb mp mb hv G c w st t l k kids a cap hm hG hr hle aC.1 hf hx
 rw[if_neg h9] at aB |-;by_cases h10:kk=10
 ·subst h10;rw[if_pos rfl] at aB |-;cases hx:Ja t with
  | none=>rw[hx] at aB;exact absurd rfl aB
  | some x=>exact expr_num mp mb hv G c w st t l k kids a cap hm hG hr hle x hx
 rw[if_neg h10] at aB |-;by_cases h12:kk=12
 ·subst h12;rw[if_pos rfl] at aB |-;exact U8 mp mb hv G c w st t l k kids a cap hm hG hr hle aC (Ni ex) hl aB
 rw[if_neg h12] at aB |-;by_cases h16:kk=16
 ·subst h16;rw[if_pos rfl] at aB |-;exact expr_op mp mb hv G c w st t l k kids a cap hm hG hr hle aC (eOp ex) ho aB
 rw[if_neg h16] at aB |-;by_cases h11:kk=11
 ·subst h11;rw[if_pos rfl] at aB |-;rw[Ci] at aC;exact Vg mp mb hv G c w st t l k kids a cap hm hG hr hle aC.1
 rw[if_neg h11] at aB |-;by_cases h14:kk=14
 ·subst h14;rw[if_pos rfl] at aB |-;exact U9 mp mb hv G c w st t l k kids a cap hm hG hr hle aC (O9 hv.ans ex) hc aB
 rw[if_neg h14] at aB |-;by_cases h13:kk=13
 ·subst h13;rw[if_pos rfl] at aB |-;exact Va mp mb hv G c w st t l k kids a cap hm hG hr hle aC (Nl ex) hd aB
 rw[if_neg h13] at aB |-;exact Vb kk ⟨h9,h10,h11,h12,h13,h14,h16⟩ mp mb hv G c w st t l k kids a cap hm hG hr hle
theorem L9{l}(h:∀x∈l,A6 x):B4 l:=by
 induction l with
 | nil=>rw[B4];trivial
 | cons v t ih=>rw[B4];exact⟨h v (List.mem_cons_self ..),ih fun x hx=>h x (List.mem_cons_of_mem _ hx)⟩
theorem MS.join{c c' w w' mp mb hv hv' st st'}(h:MS c w mp mb hv st)(k:Mv c w c' w')(h':MS c' w' mp mb hv' st'):MS (c'.with c.F) w' mp mb hv' st':=
 h'.with fun b hb=>⟨nll (h.ok.fl b hb) k.size,fun hm=>by
  rcases k.m b hm with h1|h1
  ·exact h.ok.apart b hb h1
  ·have:=h.ok.fl b hb;omega⟩
theorem Mv.join{c c' w w'}(k:Mv c w c' w'):Mv c w (c'.with c.F) w':=
 ⟨k.os,k.tape,k.output,k.size,k.block,k.m,fun b hb=>by rcases hb with hb|hb;exact k.f b hb;exact .inl hb⟩
theorem Am.join{c c' w w'}(ok:c.Ok w)(k:Mv c w c' w'){ds cs}(h:Am c.F w ds cs):Am (c'.with c.F).F w' ds cs:=
 h.mono fun b hb hl=>⟨.inr hb,nll hl k.size,k.block b hl (ok.apart b hb)⟩
theorem XB.setO{c0 c w W n v f}(h:XB c0 w c W n v f){b}(hb:w.heap.size+3<=b)(v0 v1 v2):XB c0 w c (Bs W b v0 v1 v2) n v f:=by
 unfold Bs;exact⟨((h.mv.set (.inl (by omega)) 0 _).set (.inl (by omega)) 1 _).set (.inl (by omega)) 2 _,by simpa using h.size,by rw[Ad (by omega),Ad (by omega),Ad (by omega)];exact h.na,by rw[Ad (by omega),Ad (by omega),Ad (by omega)];exact h.vb,by rw[Ad (by omega),Ad (by omega),Ad (by omega)];exact h.fc,h.out⟩
theorem MS.setO{c W mp mb hv st}(h:MS c W mp mb hv st){b}(hb:¬c.M b/\¬c.F b)(v0 v1 v2):MS c (Bs W b v0 v1 v2) mp mb hv st:=
 h.other (by unfold Bs;simp) (fun k _ hMF=>by
  have hne:k≠b:=fun e=>(by subst e;rcases hMF with h1|h1;exact hb.1 h1;exact hb.2 h1);unfold Bs;rw[Ad hne,Ad hne,Ad hne])
theorem Am.setO{F W ds cs}(h:Am F W ds cs){b}(hb:¬F b)(v0 v1 v2):Am F (Bs W b v0 v1 v2) ds cs:=
 h.mono fun k hF hl=>⟨hF,by unfold Bs;simpa using hl,by
  have hne:k≠b:=fun e=>(by subst e;exact hb hF);unfold Bs;rw[Ad hne,Ad hne,Ad hne]⟩
theorem XB.with{c0 c w W n v f}(h:XB c0 w c W n v f){g}(hg:∀b,g b->w.heap.size+3<=b):XB c0 w (c.with g) W n v f:=
 ⟨h.mv.with fun b hb=>by have:=hg b hb;omega,h.size,h.na,h.vb,h.fc,fun b h1 h2=>⟨(h.out b h1 h2).1,fun hm=>by
  rcases hm with hm|hm
  ·exact(h.out b h1 h2).2 hm
  ·have:=hg b hm;omega⟩⟩
structure LI(mp mb:Nat)(hv:Ec)(G:Nat->Prop)(c0:Ctx)(w:World)(node:Array Value)(a:Option Addr)(kids:List Nd)(c:Ctx)(W:World)(st:St)(L:Value)(acc:List Vl):Prop where
 xb:XB c0 w c W node #[.int .i64 0,.int .i64 0,.string ⟨#[]⟩,.slice none 0 0,.slice none 0 0] #[.int .i64 0,.int .i64 0,.int .i64 0]
 sb:W.heap[w.heap.size+1+1+1]? = some (.cells #[.int .i64 4,.int .i64 0,.string ⟨#[]⟩,L,.slice none 0 0] 42 (0,0))
 so:¬c.M (w.heap.size+1+1+1)/\¬c.F (w.heap.size+1+1+1)
 own:OwnD c.F W (w.heap.size+1+1+1+1) 42 5 L (Ar acc)
 oo:∀g,L.ownBlock=some g->¬c.M g/\¬c.F g
 ms:MS c W mp mb hv st
 g:GOk G c W
 g0:∀b,G b->b<w.heap.size
 row:Af G W a (A2 kids)
 chk:∀x∈acc,A0 x=true
section
variable {mp mb:Nat} {hv:Ec} {G:Nat->Prop} {c0 c c':Ctx} {w W W':World} {node:Array Value} {a:Option Addr} {kids:List Nd} {st st':St} {L:Value} {acc:List Vl}
theorem LI.below(h:LI mp mb hv G c0 w node a kids c W st L acc)(k:Below W.heap.size W W'):LI mp mb hv G c0 w node a kids c W' st L acc:=
 ⟨h.xb.below k,(k.block _ (agS.1 h.sb).1).trans h.sb,h.so,h.own.below k,h.oo,h.ms.below k,h.g.mv (.of_below c k),h.g0,h.row.below k,h.chk⟩
theorem OwnD.wide{F G:Nat->Prop}{w:World}{base:Nat}{e:TypeId}{size:Nat}{v:Value}{l:List (List Dat)}(h:OwnD F w base e size v l)(hF:∀b,F b->G b):OwnD G w base e size v l:=by
 obtain⟨css,h1,h2,h3,h4⟩:=h;exact⟨css,h1,h2,h3,fun j ds cs h5 h6=>(h4 j ds cs h5 h6).wider fun b hb _=>⟨hF b hb.1,hb.2⟩⟩
theorem LI.later(h:LI mp mb hv G c0 w node a kids c W st L acc)(k:Mv c W c' W')(h':MS c' W' mp mb hv st'):LI mp mb hv G c0 w node a kids (c'.with c.F) W' st' L acc:=by
 have aB:=(agS.1 h.sb).1;refine⟨h.xb.later k.join,(k.block _ aB h.so.1).trans h.sb,⟨fun hm=>?_,fun hm=>?_⟩,?_,fun g hg=>⟨fun hm=>?_,fun hm=>?_⟩,h.ms.join k h',h.g.mv k.join,h.g0,h.row.gmv h.g k,h.chk⟩
 ·rcases k.m _ hm with h1|h1
  ·exact h.so.1 h1
  ·omega
 ·rcases hm with hm|hm
  ·rcases k.f _ hm with h1|h1
   ·exact h.so.2 h1
   ·omega
  ·exact h.so.2 hm
 ·refine OwnD.wide (F:=c.F) (h.own.keep (fun b hl hb=>k.block b hl ?_) k.size) fun b hb=> .inr hb;rcases hb with hb|hb
  ·exact h.ms.ok.apart b hb
  ·exact(h.oo b hb).1
 ·rcases k.m _ hm with h1|h1
  ·exact(h.oo g hg).1 h1
  ·have:=(h.own.block_lt hg).2;omega
 ·rcases hm with hm|hm
  ·rcases k.f _ hm with h1|h1
   ·exact(h.oo g hg).2 h1
   ·have:=(h.own.block_lt hg).2;omega
  ·exact(h.oo g hg).2 hm
theorem LI.grown(h:LI mp mb hv G c0 w node a kids c W st L acc){x:Vl}{L':Value}(ho:OwnD c.F W' (w.heap.size+1+1+1+1) 42 5 L' (Ar acc++[valD x]))(k:W.grownBy W' L.ownBlock)(hf:∀g,L'.ownBlock=some g->L.ownBlock=some g\/W.heap.size<=g)(hx:A0 x=true):
  LI mp mb hv G c0 w node a kids c (W'.setCell ⟨w.heap.size+1+1+1,3,none⟩ L') st L' (acc++[x]):=by
 have aB:=(agS.1 h.sb).1;have aC:∀g,L.ownBlock=some g->w.heap.size+1+1+1+1<=g:=fun g hg=>(h.own.block_lt hg).1;have hws:=h.xb.size;have h1:∀b,b<w.heap.size+3->(W'.setCell ⟨w.heap.size+1+1+1,3,none⟩ L').heap[b]? = W.heap[b]?:=fun b hb=>
  (Ad (by omega) 3 _).trans (k.block b (by omega) (fun e=>by have:=aC b e.symm;omega))
 have hMF:∀b,b<W.heap.size->(c.M b\/c.F b)->(W'.setCell ⟨w.heap.size+1+1+1,3,none⟩ L').heap[b]? = W.heap[b]?:=fun b hb hm=>
  (Ad (fun e=>by subst e;rcases hm with hm|hm;exact h.so.1 hm;exact h.so.2 hm) 3 _).trans (k.block b hb (fun e=>by rcases hm with hm|hm;exact(h.oo b e.symm).1 hm;exact(h.oo b e.symm).2 hm))
 have hsz:W.heap.size<=(W'.setCell ⟨w.heap.size+1+1+1,3,none⟩ L').heap.size:=(by simpa using k.size);refine⟨⟨(h.xb.mv.own k (fun g hg=>by have:=aC g hg;omega)).set (.inl (by omega)) 3 _,nlt hws hsz,(h1 _ (by omega)).trans h.xb.na,(h1 _ (by omega)).trans h.xb.vb,(h1 _ (by omega)).trans h.xb.fc,h.xb.out⟩,?_,h.so,?_,fun g hg=>?_,h.ms.other hsz hMF,fun b hb=>⟨nll (h.g b hb).1 hsz,(h.g b hb).2⟩,h.g0,h.row.mono fun b hb hl=>⟨hb,nll hl hsz,h1 b (by have:=h.g0 b hb;omega)⟩,fun y hy=>?_⟩
 ·rw[Ag ((k.block _ aB (fun e=>by have:=aC _ e.symm;omega)).trans h.sb) 3 L'];rfl
 ·rw[Ea];refine OwnD.keep (show OwnD c.F W' _ _ 5 L' (Ar acc++Ar [x]) by simpa[Ar] using ho) (fun b hb hm=>Ad (fun e=>by
   subst e;rcases hm with hm|hm
   ·exact h.so.2 hm
   ·have:=(ho.block_lt hm).1;omega) 3 _) (by simp)
 ·rcases hf g hg with h2|h2
  ·exact h.oo g h2
  ·exact⟨fun hm=>by have:=h.ms.ok.ml g hm;omega,fun hm=>by have:=h.ms.ok.fl g hm;omega⟩
 ·rcases List.mem_append.1 hy with h2|h2
  ·exact h.chk y h2
  ·rw[List.mem_singleton.1 h2];exact hx
theorem LI.done(h:LI mp mb hv G c0 w node a kids c W st L acc):XB c0 w (c.with fun b=>L.ownBlock=some b) W node #[.int .i64 0,.int .i64 0,.string ⟨#[]⟩,.slice none 0 0,.slice none 0 0] #[.int .i64 0,.int .i64 0,.int .i64 0]/\MS (c.with fun b=>L.ownBlock=some b) W mp mb hv st /\
  ∃aL capL,L = .slice aL acc.length capL/\Am (c.with fun b=>L.ownBlock=some b).F W (valD (.mk 4 0 ⟨#[]⟩ acc [])) [.int .i64 4,.int .i64 0,.string ⟨#[]⟩,.slice aL acc.length capL,.slice none 0 0]:=by
 refine⟨⟨h.xb.mv.with fun b hb=>by have:=(h.own.block_lt hb).1;omega,h.xb.size,h.xb.na,h.xb.vb,h.xb.fc,fun b h1 h2=>⟨(h.xb.out b h1 h2).1,fun hm=>?_⟩⟩,h.ms.with fun b hb=>⟨(h.own.block_lt hb).2,(h.oo b hb).1⟩,?_⟩
 ·rcases hm with hm|hm
  ·exact(h.xb.out b h1 h2).2 hm
  ·have:=(h.own.block_lt hm).1;omega
 ·obtain⟨aL,capL,hL,hr⟩:=(h.own.wide (G:=(c.with fun b=>L.ownBlock=some b).F) (fun b hb=> .inl hb)).rowAt (fun g hg=> .inr hg);rw[Bd] at hL;exact⟨aL,capL,hL,Am.val_mk (l:=acc) (ks:=[]) _ _ _ capL _ hr (Af.nil _)⟩
end
theorem Vd{mp mb hv ex}(hnz:∀n st x y z,ex n st = .err x y z->x≠0)(hx:Fc 116 mp mb hv ex):Fc 167 mp mb hv (Ni ex):=by
 intro G c w st n v hm hG hn bR bS;obtain⟨kk,t,l,k,kids⟩:=n;obtain⟨a,cap,rfl,hr⟩:=hn.open;obtain⟨i0,hi,hz0,hz1,hz2⟩:=info_parts infoVal;rw[Ci] at bR;obtain⟨-,hlen,aR⟩:=bR;obtain⟨h3a,h3b,h3c,h3d,h3e⟩:=Ch w (.cells #[.int .i64 kk,.string t,.int .i64 l,.int .i64 k,.slice a kids.length cap] 49) (.cells #[.int .i64 0,.int .i64 0,.string ⟨#[]⟩,.slice none 0 0,.slice none 0 0] 42) (.cells #[.int .i64 0,.int .i64 0,.int .i64 0] 95);have H0:=XB.start hm.ok #[.int .i64 kk,.string t,.int .i64 l,.int .i64 k,.slice a kids.length cap] #[.int .i64 0,.int .i64 0,.string ⟨#[]⟩,.slice none 0 0,.slice none 0 0] #[.int .i64 0,.int .i64 0,.int .i64 0];have HL0:LI mp mb hv G c w #[.int .i64 kk,.string t,.int .i64 l,.int .i64 k,.slice a kids.length cap] a kids c ((((w.alloc (.cells #[.int .i64 kk,.string t,.int .i64 l,.int .i64 k,.slice a kids.length cap] 49)).alloc (.cells #[.int .i64 0,.int .i64 0,.string ⟨#[]⟩,.slice none 0 0,.slice none 0 0] 42)).alloc (.cells #[.int .i64 0,.int .i64 0,.int .i64 0] 95)).alloc (.cells #[.int .i64 4,.int .i64 0,.string ⟨#[]⟩,.slice none 0 0,.slice none 0 0] 42)) st (.slice none 0 0) []:=by
  generalize ((w.alloc (.cells #[.int .i64 kk,.string t,.int .i64 l,.int .i64 k,.slice a kids.length cap] 49)).alloc (.cells #[.int .i64 0,.int .i64 0,.string ⟨#[]⟩,.slice none 0 0,.slice none 0 0] 42)).alloc (.cells #[.int .i64 0,.int .i64 0,.int .i64 0] 95)=W0 at *;have hb:Below w.heap.size w (W0.alloc (.cells #[.int .i64 4,.int .i64 0,.string ⟨#[]⟩,.slice none 0 0,.slice none 0 0] 42)):=h3d.alloc (by omega) _;have hs0:W0.heap.size=w.heap.size+1+1+1:=(by omega);exact⟨H0.below ((bRf _ W0).alloc (nlr _) _),by rw[<-hs0];exact heap_alloc_new W0 _,⟨fun h=>by have:=hm.ok.ml _ h;omega,fun h=>by have:=hm.ok.fl _ h;omega⟩,OwnD.nil _ _ _ _ _,fun g hg=>(by cases hg),hm.below hb,hG.mv (.of_below c hb),fun b h=>(hG b h).1,hr.below hb,fun x h=>(by cases h)⟩
 have HL:=Lq7 HL0;obtain⟨res,aU⟩:∃res,res=Ni ex (.mk kk t l k kids) st:=⟨_,rfl⟩;rw[<-aU] at bS |-;have bC:Hid (res=EM.bind (Gv ex (kids.drop 0) []) (fun l'=>Di (.mk 4 0 ⟨#[]⟩ l' []) l k) st):=Lq7 aU;have bT:=Lq7 bS;have aW:=Lq7 aR;have Hx:=Lq7 hx;have Hnz:=Lq7 hnz;unfold ptr;go_enter Tryz.func167,Tryz.ntmps167;go_wp2_with fail;generalize World.alloc _ _=W1 at HL |-
 go_loopw [15] (fun i wr=>∃(j:Nat) (acc:List Vl) (L:Value) (c1:Ctx) (aD:St),i = .int .i64 j/\j<=kids.length/\acc.length=j/\Hid (LI mp mb hv G c w #[.int .i64 kk,.string t,.int .i64 l,.int .i64 k,.slice a kids.length cap] a kids c1 wr aD L acc)/\Hid (res=EM.bind (Gv ex (kids.drop j) acc) (fun l'=>Di (.mk 4 0 ⟨#[]⟩ l' []) l k) aD)) (fun i _=>kids.length-(intOf i).toNat)
 case atStart=>exact⟨0,[],_,c,st,rfl,Nat.zero_le _,rfl,HL,bC⟩
 case round=>
  obtain⟨j,acc,L,c1,aD,rfl,hj,aY,hl,bD⟩:=hrel;by_cases hlt:j<kids.length
  ·cases hk:kids[j] with
   | mk xk xt xl xc xs=>
    have bU:kids[j]? = some (.mk xk xt xl xc xs):=(by rw[List.getElem?_eq_getElem hlt,hk]);have aG:kids.drop j = .mk xk xt xl xc xs::kids.drop (j+1):=(by rw[List.drop_eq_getElem_cons hlt,hk]);obtain⟨b,off,a1,c1',hae,hF,hbl,r0,r1,r2,r3,r4,Hcp,hr1⟩:=hl.out.row.nodeK bU;have hnx:ex (.mk xk xt xl xc xs) aD ≠ .out:=fun h=>bT.out (by rw[bD.out,aG,Gv,Bo (Bo h)]);have bB:Below wr.heap.size wr (wr.alloc (.cells #[.int .i64 xk,.string xt,.int .i64 xl,.int .i64 xc,.slice a1 xs.length c1'] 49)):=(bRf _ wr).alloc (nlr _) _;have Hc:=Lq7 (Hx.out G c1 _ aD (.mk xk xt xl xc xs) _ (hl.out.ms.below bB) (hl.out.g.mv (.of_below c1 bB)) (A3.mk _ _ _ _ c1' (hr1.below bB)) (Em aW.out (List.mem_of_getElem? bU)) hnx);have bE:=Lq7 (hl.out.below bB);have bF:Hid (res=EM.bind (EM.bind (ex (.mk xk xt xl xc xs)) fun x=>Gv ex (kids.drop (j+1)) (acc++[x])) (fun l'=>Di (.mk 4 0 ⟨#[]⟩ l' []) l k) aD):=Lq7 (by rw[bD.out,aG];rfl);unfold ptr at Hc;subst hae;go_wp2_with fail;refine Hc.out.mono ?_;rintro e w2 ⟨c2,bV,hq⟩;cases hxx:ex (.mk xk xt xl xc xs) aD with
    | out=>exact absurd hxx (fun h=>bT.out (by rw[bF.out,Bo (Bo h)]))
    | err x y z=>
     rw[hxx] at hq;obtain rfl:=hq;have aB:Hid (res = .err x y z):=Lq7 (by rw[bF.out,Cf (Cf hxx)]);have hxz:=Hnz.out _ _ _ _ _ hxx;have hxz':(x==0)=false:=(by simpa using hxz);have H1:=Lq7 (bE.out.xb.later bV);unfold badV zeroV Ai
     go_upto_region 7 with fail
     have hb1:Below w2.heap.size w2 ((w2.alloc (.cells #[.int .i64 0,.int .i64 0,.string ⟨#[]⟩,.slice none 0 0,.slice none 0 0] 42)).alloc (.cells #[.int .i64 x,.int .i64 y,.int .i64 z] 95)):=((bRf _ w2).alloc (nlr _) _).alloc (by simp) _;have Hf:=Lq7 (heap_alloc_new (w2.alloc (.cells #[.int .i64 0,.int .i64 0,.string ⟨#[]⟩,.slice none 0 0,.slice none 0 0] 42)) (.cells #[.int .i64 x,.int .i64 y,.int .i64 z] 95));rw[show(w2.alloc (.cells #[.int .i64 0,.int .i64 0,.string ⟨#[]⟩,.slice none 0 0,.slice none 0 0] 42)).heap.size=w2.heap.size+1 by simp] at Hf;have H2:=Lq7 (H1.out.below hb1);have hsz:=H1.out.size;generalize World.alloc (World.alloc _ _) _=W at H2 Hf |-;generalize hfb:w2.heap.size+1=fb at Hf hsz |-;have hsz:w.heap.size+3<=fb:=(by omega);refine A4 (.s 0 (.s 1 (.h 2 (.h 3 .nil)))) 99 (fun W'=>W'.heap[fb]? = some (.cells #[.int .i64 x,.int .i64 y,.int .i64 z] 95 (0,0))) Hf.out ?_;have H5:=Lq7 (H2.out.below ((bRf _ W).drew));have bW:Hid (W.drew.heap[fb]? = some (.cells #[.int .i64 x,.int .i64 y,.int .i64 z] 95 (0,0))):=Lq7 Hf.out;generalize W.drew=Wd at H5 bW |-;refine Aj (.agg #[.int .i64 0,.int .i64 0,.string ⟨#[]⟩,.slice none 0 0,.slice none 0 0]) ?_;refine Ap (.agg #[.int .i64 x,.int .i64 y,.int .i64 z]) ?_;obtain⟨s0,s1,s2,s3,s4,s5,s6,s7,s8,s9,bX⟩:=Aa H5.out.vb;refine Ac rfl (fun Kx hKx=>?_);go_wp2_with fail;have H6:=Lq7 (H5.out.setV (.int .i64 0) (.int .i64 0) (.string ⟨#[]⟩) (.slice none 0 0) (.slice none 0 0));have bG:=Lq7 ((Ba (W:=Wd) (b:=w.heap.size+1) (k:=fb) (by omega) (.int .i64 0) (.int .i64 0) (.string ⟨#[]⟩) (.slice none 0 0) (.slice none 0 0)).trans bW.out);unfold Cb at H6;refine hKx _ _ (fun _=>bG.out) ?_;generalize wsC _ _ _=W6 at H6 bG |-;(try simp only[gX,aP]);obtain⟨d0,d1,d2,d3,d4,d5,d6⟩:=Ah H6.out.fc;refine Ac rfl (fun Ky hKy=>?_);go_wp2_with fail;have H7:=Lq7 (H6.out.setF (.int .i64 x) (.int .i64 y) (.int .i64 z));unfold Bs at H7;refine hKy _ _ (fun _=>((((Ad (by omega) 2 _).trans (Ad (by omega) 1 _)).trans (Ad (by omega) 0 _)).trans bG.out)) ?_;generalize wsC _ _ _=W7 at H7 |-;refine Ak ?_;(try simp only[gX,aP]);obtain⟨s0,s1,s2,s3,s4,s5,s6,s7,s8,s9,bX⟩:=Aa H7.out.vb;obtain⟨d0,d1,d2,d3,d4,d5,d6⟩:=Ah H7.out.fc;go_wp2_with fail;refine bodyPost_ret (v:=badV x y z) (by simp[badV,zeroV,Ai,results,Tryz.results167,go_sem,s1,s2,s3,s4,s5,d1,d2,d3]) rfl ?_;rw[aB.out];exact⟨_,H7.out.mv,rfl⟩
    | ok x st2=>
     rw[hxx] at hq;subst aY;obtain⟨bH,v2,rfl,cs,rfl,aZ,aM⟩:=hq;obtain⟨yk,yn,ys,yl,yks⟩:=x;obtain⟨aL,capL,hL,-⟩:=(bE.out.own.wide (G:=fun _=>True) (fun _ _=>trivial)).rowAt (fun _ _=>trivial);rw[Bd] at hL;subst hL;have bI:=bE.out.later bV bH;have bJ:Am (c2.with c1.F).F w2 (valD (.mk yk yn ys yl yks)) cs:=aZ.wider (fun b h _=> .inl h);obtain⟨b1,e1,b2,e2,rfl,-,-⟩:=aZ.val;have aE:Hid (res=EM.bind (Gv ex (kids.drop (acc.length+1)) (acc++[.mk yk yn ys yl yks])) (fun l'=>Di (.mk 4 0 ⟨#[]⟩ l' []) l k) st2):=Lq7 (by rw[bF.out];simp[EM.bind,hxx]);have bY:Below w2.heap.size w2 (((w2.alloc (.cells #[.int .i64 yk,.int .i64 yn,.string ys,.slice b1 yl.length e1,.slice b2 yks.length e2] 42)).alloc (.cells #[.int .i64 0,.int .i64 0,.int .i64 0] 95)).alloc (.cells #[.int .i64 yk,.int .i64 yn,.string ys,.slice b1 yl.length e1,.slice b2 yks.length e2] 42)):=(((bRf _ w2).alloc (nlr _) _).alloc (by simp) _).alloc (by simp;omega) _;have aQ:=Lq7 (bI.below bY);have aH:=Fe ((w2.alloc (.cells #[.int .i64 yk,.int .i64 yn,.string ys,.slice b1 yl.length e1,.slice b2 yks.length e2] 42)).alloc (.cells #[.int .i64 0,.int .i64 0,.int .i64 0] 95)) [.int .i64 yk,.int .i64 yn,.string ys,.slice b1 yl.length e1,.slice b2 yks.length e2] 42;rw[show((w2.alloc (.cells #[.int .i64 yk,.int .i64 yn,.string ys,.slice b1 yl.length e1,.slice b2 yks.length e2] 42)).alloc (.cells #[.int .i64 0,.int .i64 0,.int .i64 0] 95)).heap.size=w2.heap.size+1+1 by simp] at aH;have bA:=Lq7 aH;have aN:=Lq7 ((bJ.below bY).wider (G:=fun b=>(c2.with c1.F).F b/\(Value.slice aL acc.length capL).ownBlock≠some b) (fun b h _=>⟨h,fun e=>(bI.oo b e).2 h⟩));have bL:=Lq7 aM;have bM:=Lq7 bI.sb;obtain⟨q0,q1,q2,q3,q4,q5,q6,q7,q8,q9,bZ⟩:=Aa bM.out;have q01:w.heap.size+1+1<w2.heap.size:=(by omega);have q02:w.heap.size+1<w2.heap.size:=(by omega);unfold Ai
     go_wp2_with (at_builtin;refine Bw rfl _ _ 39 rfl (w.heap.size+1+1+1+1) 42 i0 _ 5 80 Tryz.underlying39 hi hz0 hz1 hz2 rfl (by decide) (.slice aL acc.length capL) (c2.with c1.F).F (Ar acc) rfl aQ.out.own ⟨w2.heap.size+1+1,0,none⟩ 1 (valD (.mk yk yn ys yl yks)) [.int .i64 yk,.int .i64 yn,.string ys,.slice b1 yl.length e1,.slice b2 yks.length e2] rfl rfl bA.out ?_ aN.out ?_ ?_ ?_ ?_)
     ·simp[Value.oneCell']
     ·rw[Bd];unfold maxLen;omega
     ·rw[Bd];omega
     ·have:=(agS.1 aQ.out.sb).1;omega
     intro v3 w3 aJ aC aF;obtain⟨a3,cap3,cB,-⟩:=(aJ.wide (G:=fun _=>True) (fun _ _=>trivial)).rowAt (fun _ _=>trivial);rw[List.length_append,Bd,List.length_singleton] at cB;subst cB;have Hl4:=Lq7 (aQ.out.grown aJ aC (fun g hg=>(aF g hg).imp id (fun h=>by simpa using h)) bL.out);have bN:=Lq7 ((aC.block _ (agS.1 aQ.out.sb).1 (fun e=>by have:=(aQ.out.own.block_lt e.symm).1;omega)).trans aQ.out.sb);obtain⟨q0,q1,q2,q3,q4,q5,q6,q7,q8,q9,bZ⟩:=Aa bN.out;go_wp2_with fail;go_roundw
     case rel=>exact⟨acc.length+1,acc++[.mk yk yn ys yl yks],_,_,st2,by go_num,by omega,by simp,Hl4,aE⟩
     case measure=>simp only[intOf];omega
  ·subst aY;have hd0:kids.drop acc.length=[]:=List.drop_eq_nil_of_le (by omega);have aE:Hid (res=Di (.mk 4 0 ⟨#[]⟩ acc []) l k aD):=Lq7 (by rw[bD.out,hd0];rfl);obtain⟨cC,bO,aL,capL,hL,bP⟩:=hl.out.done;have cD:=bO.ok;have bM:=Lq7 hl.out.sb;have hsv:A6 (.mk 4 0 ⟨#[]⟩ acc []):=by
    rw[A6];exact⟨⟨by decide,rfl⟩,by omega,by simp,by simp,L9 fun x hx=>Br (hl.out.chk x hx)⟩
   generalize hc2:c1.with (fun b=>L.ownBlock=some b)=c2 at cC bO bP cD;subst hL;have Hm:=Lq7 (Nf _ hsv c2.F _ l k wr cD.fl bP);have H1:=Lq7 cC;have Hm1:=Lq7 bO;have Hag:=Lq7 bP;obtain⟨r0,r1,r2,r3,r4,r5,r6,r7,r8,r9,r10⟩:=Aa H1.out.na;obtain⟨q0,q1,q2,q3,q4,q5,q6,q7,q8,q9,bZ⟩:=Aa bM.out;go_wp2_with fail;refine Hm.out.mono ?_;rintro e w2 ⟨bQ,rfl⟩;have H3:=Lq7 (H1.out.below bQ);have Hm3:=Lq7 (Hm1.out.below bQ);have aN:=Lq7 (Hag.out.below bQ);obtain⟨s0,s1,s2,s3,s4,s5,s6,s7,s8,s9,bX⟩:=Aa H3.out.vb;obtain⟨d0,d1,d2,d3,d4,d5,d6⟩:=Ah H3.out.fc;by_cases aM:A0 (.mk 4 0 ⟨#[]⟩ acc [])=true
   ·rw[if_pos aM];have bL:=Lq7 aM;have aB:Hid (res = .ok (.mk 4 0 ⟨#[]⟩ acc []) aD):=Lq7 (by rw[aE.out];unfold Di;rw[if_pos aM];rfl);unfold Ai;go_wp2_with fail;refine bodyPost_ret (v:=.tuple #[.agg #[.int .i64 4,.int .i64 0,.string ⟨#[]⟩,.slice aL acc.length capL,.slice none 0 0],Ai 0 0 0]) (by simp[Ai,results,Tryz.results167,go_sem,s1,s2,s3,s4,s5,d1,d2,d3]) rfl ?_;have H4:=H3.out.setV (.int .i64 4) (.int .i64 0) (.string ⟨#[]⟩) (.slice aL acc.length capL) (.slice none 0 0);have Hm4:=H3.out.msV Hm3.out (.int .i64 4) (.int .i64 0) (.string ⟨#[]⟩) (.slice aL acc.length capL) (.slice none 0 0);have Ha4:=H3.out.aggV aN.out (.int .i64 4) (.int .i64 0) (.string ⟨#[]⟩) (.slice aL acc.length capL) (.slice none 0 0);rw[aB.out];exact⟨c2,(H4.setF (.int .i64 0) (.int .i64 0) (.int .i64 0)).mv,H4.msF Hm4 (.int .i64 0) (.int .i64 0) (.int .i64 0),_,rfl,[_,_,_,_,_],rfl,H4.aggF Ha4 (.int .i64 0) (.int .i64 0) (.int .i64 0),bL.out⟩
   ·rw[if_neg aM];have aB:Hid (res = .err 6 l k):=Lq7 (by rw[aE.out];unfold Di;rw[if_neg aM];rfl);unfold badV zeroV Ai;go_wp2_with fail;refine bodyPost_ret (v:=badV 6 l k) (by simp[badV,zeroV,Ai,results,Tryz.results167,go_sem,s1,s2,s3,s4,s5,d1,d2,d3]) rfl ?_;rw[aB.out];exact⟨c2,((H3.out.setV (.int .i64 0) (.int .i64 0) (.string ⟨#[]⟩) (.slice none 0 0) (.slice none 0 0)).setF (.int .i64 6) (.int .i64 l) (.int .i64 k)).mv,rfl⟩
structure DI(mp mb:Nat)(hv:Ec)(G:Nat->Prop)(c0:Ctx)(w:World)(node:Array Value)(a:Option Addr)(kids:List Nd)(c:Ctx)(W:World)(st:St)(acc:List (ByteArray×Vl)):Prop where
 xb:XB c0 w c W node #[.int .i64 0,.int .i64 0,.string ⟨#[]⟩,.slice none 0 0,.slice none 0 0] #[.int .i64 0,.int .i64 0,.int .i64 0]
 nm:NM c.F W (w.heap.size+1+1+1) acc
 so:¬c.M (w.heap.size+1+1+1)/\¬c.F (w.heap.size+1+1+1)
 ms:MS c W mp mb hv st
 g:GOk G c W
 g0:∀b,G b->b<w.heap.size
 row:Af G W a (A2 kids)
section
variable {mp mb:Nat} {hv:Ec} {G:Nat->Prop} {c0 c c':Ctx} {w W W':World} {node:Array Value} {a:Option Addr} {kids:List Nd} {st st':St} {acc:List (ByteArray×Vl)}
theorem DI.below(h:DI mp mb hv G c0 w node a kids c W st acc)(k:Below W.heap.size W W'):DI mp mb hv G c0 w node a kids c W' st acc:=
 ⟨h.xb.below k,h.nm.below k,h.so,h.ms.below k,h.g.mv (.of_below c k),h.g0,h.row.below k⟩
theorem DI.later(h:DI mp mb hv G c0 w node a kids c W st acc)(k:Mv c W c' W')(h':MS c' W' mp mb hv st'):DI mp mb hv G c0 w node a kids (c'.with c.F) W' st' acc:=by
 have hsl:=h.nm.lt;refine⟨h.xb.later k.join,h.nm.keep (k.block _ hsl h.so.1) (fun b hb hl=>⟨.inr hb,nll hl k.size,k.block b hl (h.ms.ok.apart b hb)⟩),⟨fun hm=>?_,fun hm=>?_⟩,h.ms.join k h',h.g.mv k.join,h.g0,h.row.gmv h.g k⟩
 ·rcases k.m _ hm with h1|h1
  ·exact h.so.1 h1
  ·omega
 ·rcases hm with hm|hm
  ·rcases k.f _ hm with h1|h1
   ·exact h.so.2 h1
   ·omega
  ·exact h.so.2 hm
theorem DI.put(h:DI mp mb hv G c0 w node a kids c W st acc)(s:ByteArray)(hs:s.size<=maxLen)(x:Vl)(cs:List Value)(hc:Am c.F W (valD x) cs)(hck:A0 x=true):
  ∃o,(Instr.mapUpdate 91 (.map (some (w.heap.size+1+1+1))) (.string s) (.agg cs.toArray)).run Tryz.prog W = .ok () (W.putObj (w.heap.size+1+1+1) o)/\DI mp mb hv G c0 w node a kids c (W.putObj (w.heap.size+1+1+1) o) st (putN acc s x):=by
 obtain⟨o,h1,h2⟩:=h.nm.store h.so.2 s hs x cs hc hck;have hsz:(W.putObj (w.heap.size+1+1+1) o).heap.size=W.heap.size:=(by simp[World.putObj]);have ho:∀b,b≠w.heap.size+1+1+1->(W.putObj (w.heap.size+1+1+1) o).heap[b]? = W.heap[b]?:=fun b hb=>World.putObj_heap_other hb;have hmf:∀b,(c.M b\/c.F b)->b≠w.heap.size+1+1+1:=fun b hb e=>by
  subst e;rcases hb with hb|hb
  ·exact h.so.1 hb
  ·exact h.so.2 hb
 refine⟨o,h1,⟨⟨h.xb.mv.os,h.xb.mv.tape,h.xb.mv.output,by rw[hsz];exact h.xb.mv.size,fun b hb hn=>(ho b (by omega)).trans (h.xb.mv.block b hb hn),h.xb.mv.m,h.xb.mv.f⟩,by rw[hsz];exact h.xb.size,(ho _ (by omega)).trans h.xb.na,(ho _ (by omega)).trans h.xb.vb,(ho _ (by omega)).trans h.xb.fc,h.xb.out⟩,h2,h.so,h.ms.other (by rw[hsz];exact nlr _) (fun b _ hb=>ho b (hmf b hb)),fun b hb=>⟨by rw[hsz];exact(h.g b hb).1,(h.g b hb).2⟩,h.g0,h.row.mono fun b hb hl=>⟨hb,by rw[hsz];exact hl,ho b (by have:=h.g0 b hb;omega)⟩⟩
end
theorem Ng(m):(Cu m).length=m.length:=by
 simp[Cu,Eo]
theorem Rb{m s}(h:C9 m s=none):∀q∈m,q.1≠s:=by
 intro q hq e;unfold C9 at h;rw[Option.map_eq_none_iff,List.find?_eq_none] at h;exact h q hq (by rw[e];simp)
theorem OwnS.rowAt{F w base v l}(h:OwnS w base v l)(hF:∀g,v.ownBlock=some g->F g):∃a cap,v = .slice a l.length cap/\Af F w a (Bl l):=by
 obtain⟨a,cap,hv,hs,-⟩:=h.strsAt;refine⟨a,cap,hv,fun j ds hj=>?_⟩;rw[Bl,List.getElem?_map] at hj;cases hl:l[j]? with
 | none=>rw[hl] at hj;cases hj
 | some x=>
  rw[hl] at hj;cases hj;obtain⟨b,off,rfl,hc⟩:=hs j x hl;refine⟨b,off,[.string x],rfl,hF b (by rw[hv];rfl),Au hc,.cons (.one _) .nil,fun i u hu=>?_⟩;cases i with
  | zero=>simp at hu;subst hu;simpa using hc
  | succ i=>simp at hu
theorem Sz(m):Cn m=(Cu m).map (·.1):=by
 simp[Cn,Cu,List.map_map,Function.comp_def]
theorem U6{m}(h:∀q∈m,A0 q.2=true/\q.1.size<=maxLen):∀q∈Cu m,A0 q.2=true/\q.1.size<=maxLen:=by
 intro q hq;unfold Cu at hq;obtain⟨b,hb,rfl⟩:=List.mem_map.1 hq;have hb':=(List.mergeSort_perm (m.map (·.1.data.toList)) (fun x y=>decide (x<=y))).mem_iff.1 hb;obtain⟨r,hr,rfl⟩:=List.mem_map.1 hb';have hsz:(⟨r.1.data.toList.toArray⟩:ByteArray)=r.1:=(by simp);show A0 ((C9 m _).getD vZero)=true/\(⟨r.1.data.toList.toArray⟩:ByteArray).size<=maxLen;rw[hsz];refine⟨?_,(h r hr).2⟩;cases hf:C9 m r.1 with
 | none=>exact absurd rfl (Rb hf r hr)
 | some v=>
  unfold C9 at hf;obtain⟨p,hp,rfl⟩:=Option.map_eq_some_iff.1 hf;exact(h p (List.mem_of_find?_eq_some hp)).1
theorem S0{m}(hl:m.length<=1000000)(h:∀q∈m,A0 q.2=true/\q.1.size<=maxLen):A6 (I1 m):=by
 unfold I1;rw[A6];have hc:=U6 h;refine⟨⟨by decide,rfl⟩,by rw[List.length_map,Ng];omega,by rw[List.length_map,Ng];omega,fun s hs=>?_,L9 fun x hx=>?_⟩
 ·obtain⟨q,hq,rfl⟩:=List.mem_map.1 hs;have:=(hc q hq).2;unfold maxLen at this;omega
 ·obtain⟨q,hq,rfl⟩:=List.mem_map.1 hx;exact Br (hc q hq).1
structure SI(F:Nat->Prop)(vb:Nat)(K:Value)(w3:World)(W:World)(L:Value)(items:List Vl):Prop where
 sb:W.heap[vb]? = some (.cells #[.int .i64 5,.int .i64 0,.string ⟨#[]⟩,L,K] 42 (0,0))
 own:OwnD F W (vb+1) 42 5 L (Ar items)
 bw:Below vb w3 W
 fl:∀b,F b->b<vb
section
variable {F:Nat->Prop} {vb:Nat} {K L L':Value} {w3 W W':World} {items:List Vl}
theorem SI.below(h:SI F vb K w3 W L items)(k:Below W.heap.size W W'):SI F vb K w3 W' L items:=
 ⟨stays h.sb k,h.own.below k,h.bw.trans (k.mono (Nat.le_of_lt (here h.sb))),h.fl⟩
theorem SI.grown(h:SI F vb K w3 W L items){x:Vl}(ho:OwnD F W' (vb+1) 42 5 L' (Ar items++[valD x]))(k:W.grownBy W' L.ownBlock):SI F vb K w3 (W'.setCell ⟨vb,3,none⟩ L') L' (items++[x]):=by
 have aB:∀g,L.ownBlock=some g->vb+1<=g:=fun g hg=>(h.own.block_lt hg).1;have hsb:=(k.block vb (here h.sb) (fun e=>by have:=aB vb e.symm;omega)).trans h.sb;refine⟨by rw[Ag hsb 3];rfl,?_,?_,h.fl⟩
 ·rw[Ea];refine OwnD.keep (show OwnD F W' _ _ 5 L' (Ar items++Ar [x]) by simpa[Ar] using ho) (fun b hb hm=>Ad (fun e=>by
   subst e;rcases hm with hm|hm
   ·have:=h.fl b hm;omega
   ·have:=(ho.block_lt hm).1;omega) 3 _) (by simp)
 ·exact(h.bw.trans (B5 k (fun g hg=>by have:=aB g hg;omega) (Nat.le_of_lt (here h.sb)))).setCell (p:=⟨vb,3,none⟩) (nlr _) _
end
structure KI(mp mb:Nat)(hv:Ec)(G:Nat->Prop)(c0:Ctx)(w:World)(node:Array Value)(a:Option Addr)(kids:List Nd)(ct:ByteArray)(cl cc:Int)(c:Ctx)(W:World)(st:St)(L:Value)(acc:List (ByteArray×Vl)):Prop where
 xb:XB c0 w c W node #[.int .i64 0,.int .i64 0,.string ⟨#[]⟩,.slice none 0 0,.slice none 0 0] #[.int .i64 0,.int .i64 0,.int .i64 0]
 sb:W.heap[w.heap.size+1+1+1]? = some (.cells #[.string ct,L,.int .i64 cl,.int .i64 cc] 239 (0,0))
 so:¬c.M (w.heap.size+1+1+1)/\¬c.F (w.heap.size+1+1+1)
 own:OwnD c.F W (w.heap.size+1+1+1+1) 75 6 L (Bv acc)
 oo:∀g,L.ownBlock=some g->¬c.M g/\¬c.F g
 ms:MS c W mp mb hv st
 g:GOk G c W
 g0:∀b,G b->b<w.heap.size
 row:Af G W a (A2 kids)
 chk:∀x∈acc,A0 x.2=true
section
variable {mp mb:Nat} {hv:Ec} {G:Nat->Prop} {c0 c c':Ctx} {w W W':World} {node:Array Value} {a:Option Addr} {kids:List Nd} {st st':St} {L:Value} {acc:List (ByteArray×Vl)} {ct:ByteArray} {cl cc:Int}
theorem KI.below(h:KI mp mb hv G c0 w node a kids ct cl cc c W st L acc)(k:Below W.heap.size W W'):KI mp mb hv G c0 w node a kids ct cl cc c W' st L acc:=
 ⟨h.xb.below k,(k.block _ (agS.1 h.sb).1).trans h.sb,h.so,h.own.below k,h.oo,h.ms.below k,h.g.mv (.of_below c k),h.g0,h.row.below k,h.chk⟩
theorem KI.later(h:KI mp mb hv G c0 w node a kids ct cl cc c W st L acc)(k:Mv c W c' W')(h':MS c' W' mp mb hv st'):KI mp mb hv G c0 w node a kids ct cl cc (c'.with c.F) W' st' L acc:=by
 have aB:=(agS.1 h.sb).1;refine⟨h.xb.later k.join,(k.block _ aB h.so.1).trans h.sb,⟨fun hm=>?_,fun hm=>?_⟩,?_,fun g hg=>⟨fun hm=>?_,fun hm=>?_⟩,h.ms.join k h',h.g.mv k.join,h.g0,h.row.gmv h.g k,h.chk⟩
 ·rcases k.m _ hm with h1|h1
  ·exact h.so.1 h1
  ·omega
 ·rcases hm with hm|hm
  ·rcases k.f _ hm with h1|h1
   ·exact h.so.2 h1
   ·omega
  ·exact h.so.2 hm
 ·refine OwnD.wide (F:=c.F) (h.own.keep (fun b hl hb=>k.block b hl ?_) k.size) fun b hb=> .inr hb;rcases hb with hb|hb
  ·exact h.ms.ok.apart b hb
  ·exact(h.oo b hb).1
 ·rcases k.m _ hm with h1|h1
  ·exact(h.oo g hg).1 h1
  ·have:=(h.own.block_lt hg).2;omega
 ·rcases hm with hm|hm
  ·rcases k.f _ hm with h1|h1
   ·exact(h.oo g hg).2 h1
   ·have:=(h.own.block_lt hg).2;omega
  ·exact(h.oo g hg).2 hm
theorem KI.grown(h:KI mp mb hv G c0 w node a kids ct cl cc c W st L acc){x:ByteArray×Vl}{L':Value}(ho:OwnD c.F W' (w.heap.size+1+1+1+1) 75 6 L' (Bv acc++[Ge x]))(k:W.grownBy W' L.ownBlock)(hf:∀g,L'.ownBlock=some g->L.ownBlock=some g\/W.heap.size<=g)(hx:A0 x.2=true):
  KI mp mb hv G c0 w node a kids ct cl cc c (W'.setCell ⟨w.heap.size+1+1+1,1,none⟩ L') st L' (acc++[x]):=by
 have aB:=(agS.1 h.sb).1;have aC:∀g,L.ownBlock=some g->w.heap.size+1+1+1+1<=g:=fun g hg=>(h.own.block_lt hg).1;have hws:=h.xb.size;have h1:∀b,b<w.heap.size+3->(W'.setCell ⟨w.heap.size+1+1+1,1,none⟩ L').heap[b]? = W.heap[b]?:=fun b hb=>
  (Ad (by omega) 1 _).trans (k.block b (by omega) (fun e=>by have:=aC b e.symm;omega))
 have hMF:∀b,b<W.heap.size->(c.M b\/c.F b)->(W'.setCell ⟨w.heap.size+1+1+1,1,none⟩ L').heap[b]? = W.heap[b]?:=fun b hb hm=>
  (Ad (fun e=>by subst e;rcases hm with hm|hm;exact h.so.1 hm;exact h.so.2 hm) 1 _).trans (k.block b hb (fun e=>by rcases hm with hm|hm;exact(h.oo b e.symm).1 hm;exact(h.oo b e.symm).2 hm))
 have hsz:W.heap.size<=(W'.setCell ⟨w.heap.size+1+1+1,1,none⟩ L').heap.size:=(by simpa using k.size);refine⟨⟨(h.xb.mv.own k (fun g hg=>by have:=aC g hg;omega)).set (.inl (by omega)) 1 _,nlt hws hsz,(h1 _ (by omega)).trans h.xb.na,(h1 _ (by omega)).trans h.xb.vb,(h1 _ (by omega)).trans h.xb.fc,h.xb.out⟩,?_,h.so,?_,fun g hg=>?_,h.ms.other hsz hMF,fun b hb=>⟨nll (h.g b hb).1 hsz,(h.g b hb).2⟩,h.g0,h.row.mono fun b hb hl=>⟨hb,nll hl hsz,h1 b (by have:=h.g0 b hb;omega)⟩,fun y hy=>?_⟩
 ·rw[Ag ((k.block _ aB (fun e=>by have:=aC _ e.symm;omega)).trans h.sb) 1 L'];rfl
 ·rw[Jf];refine OwnD.keep (show OwnD c.F W' _ _ 6 L' (Bv acc++Bv [x]) by simpa[Bv] using ho) (fun b hb hm=>Ad (fun e=>by
   subst e;rcases hm with hm|hm
   ·exact h.so.2 hm
   ·have:=(ho.block_lt hm).1;omega) 1 _) (by simp)
 ·rcases hf g hg with h2|h2
  ·exact h.oo g h2
  ·exact⟨fun hm=>by have:=h.ms.ok.ml g hm;omega,fun hm=>by have:=h.ms.ok.fl g hm;omega⟩
 ·rcases List.mem_append.1 hy with h2|h2
  ·exact h.chk y h2
  ·rw[List.mem_singleton.1 h2];exact hx
theorem KI.done(h:KI mp mb hv G c0 w node a kids ct cl cc c W st L acc):XB c0 w (c.with fun b=>L.ownBlock=some b) W node #[.int .i64 0,.int .i64 0,.string ⟨#[]⟩,.slice none 0 0,.slice none 0 0] #[.int .i64 0,.int .i64 0,.int .i64 0]/\MS (c.with fun b=>L.ownBlock=some b) W mp mb hv st /\
  ∃aL capL,L = .slice aL acc.length capL/\Af (c.with fun b=>L.ownBlock=some b).F W aL (Bv acc):=by
 refine⟨⟨h.xb.mv.with fun b hb=>by have:=(h.own.block_lt hb).1;omega,h.xb.size,h.xb.na,h.xb.vb,h.xb.fc,fun b h1 h2=>⟨(h.xb.out b h1 h2).1,fun hm=>?_⟩⟩,h.ms.with fun b hb=>⟨(h.own.block_lt hb).2,(h.oo b hb).1⟩,?_⟩
 ·rcases hm with hm|hm
  ·exact(h.xb.out b h1 h2).2 hm
  ·have:=(h.own.block_lt hm).1;omega
 ·obtain⟨aL,capL,hL,hr⟩:=(h.own.wide (G:=(c.with fun b=>L.ownBlock=some b).F) (fun b hb=> .inl hb)).rowAt (fun g hg=> .inr hg);rw[Er] at hL;exact⟨aL,capL,hL,hr⟩
end
end Go.Proofs.YtbcdimjbepigcaaGreatDoor
