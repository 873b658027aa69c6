/-
  The evaluator's expr at a name,by the driver. (And what it stands on.)
-/
import Derived.Test.YtlbbbapiklendaaGreatDoorMPlusA
import Derived.Test.YtlbbbapiklendaaGreatDoorMParseX
namespace Go.Proofs.YtlbbbapiklendaaGreatDoor
open Go.IntKind renaming i64->D
open Go.Value renaming int->C,string->E,slice->A,agg->M
open Option renaming some->J,none->I
open Go Go.RowKit
open Nat renaming lt_of_lt_of_le->nll
open Go.Lib renaming hid->Lq7
open And renaming intro->aIn
set_option maxRecDepth 100000
set_option maxHeartbeats 16000000
theorem Py{B w W}(h:Below B w W){b}(hb:B<=b)(v0 v1 v2 v3 v4):Below B w (((((W.setCell ⟨b,0,I⟩ v0).setCell ⟨b,1,I⟩ v1).setCell ⟨b,2,I⟩ v2).setCell ⟨b,3,I⟩ v3).setCell ⟨b,4,I⟩ v4):=
 ((((h.setCell (p:=⟨b,0,I⟩) hb _).setCell (p:=⟨b,1,I⟩) hb _).setCell (p:=⟨b,2,I⟩) hb _).setCell (p:=⟨b,3,I⟩) hb _).setCell (p:=⟨b,4,I⟩) hb _
def PMade(v:Vl)(cs:List Value)(l k:Int)(w:World)(e:Ending)(w':World):Prop:=
 Below w.heap.size w w'/\e = .returned (if Am v then .tuple #[.agg cs.toArray,Bk 0 0 0] else badV 6 l k)
theorem U3(v)(hs:Ay v)(F cs l k w)(hF:∀b,F b->b<w.heap.size)(hc:Ai F w (valD v) cs):
  Calls Tryz.prog 122 #[.agg cs.toArray,M #[C D l,C D k]] w (PMade v cs l k w):=by
 obtain⟨vk,vn,vs,vl,vks⟩:=v;obtain⟨a1,c1,a2,c2,rfl,hr1,hr2⟩:=hc.val;have H0:=Lq7 (alloc4 w (.cells #[C D vk,C D vn,E vs,A a1 vl.length c1,A a2 vks.length c2] 53) (.cells #[C D l,C D k] 24) (.cells #[C D 0,C D 0,E ⟨#[]⟩,A I 0 0,A I 0 0] 53) (.cells #[C D 0,C D 0,C D 0] 75));have aB:=Lq7 (Ep (.mk vk vn vs vl vks) hs F a1 c1 a2 c2 _ (fun b hb=>nll (hF b hb) H0.out.2.2.2.2.1.size) (hr1.below H0.out.2.2.2.2.1) (hr2.below H0.out.2.2.2.2.1));unfold A4 at aB;unfold PMade;cases hck:Am (.mk vk vn vs vl vks)
 ·rw[hck] at aB;go_enter Tryz.func122,Tryz.ntmps122;go_wp2_with fail;refine aB.out.mono ?_;rintro e w1 ⟨rfl,aA⟩
  go_upto_region 2 with fail
  have H1:=Lq7 (aIn (stays H0.out.2.1 aA) (aIn (stays H0.out.2.2.1 aA) (aIn (stays H0.out.2.2.2.1 aA) (H0.out.2.2.2.2.1.trans (aA.mono H0.out.2.2.2.2.1.size)))));refine Bm (.s 0 (.s 1 (.s 2 (.h 3 (.h 4 .nil))))) 99 (fun W'=>W'.heap[w.heap.size+1]? = J (.cells #[C D l,C D k] 24 (0,0))) H1.out.1 ?_;have aC:Below w1.heap.size w1 w1.drew:=(Below.refl _ w1).drew;have H2:=Lq7 (aIn (stays H1.out.1 aC) (aIn (stays H1.out.2.1 aC) (aIn (stays H1.out.2.2.1 aC) (H1.out.2.2.2.trans (aC.mono H1.out.2.2.2.size)))));generalize w1.drew=Wd at H2 |-;refine Bp zeroV (fun W' hS=>?_) ?_
  ·unfold zeroV;go_simp
  refine A9 (M #[C D l,C D k]) ?_;refine Bp (Bk 6 l k) (fun W' hS=>?_) ?_
  ·unfold Bk;go_simp
  unfold zeroV Bk;obtain⟨r0,r1,r2,r3,r4,r5,r6,r7,r8,r9,aD⟩:=Aa H2.out.2.1;refine Ae rfl (fun Kx hKx=>?_);go_wp2_with fail;have H3:Hid ((((((Wd.setCell ⟨w.heap.size+1+1,0,I⟩ (C D 0)).setCell ⟨w.heap.size+1+1,1,I⟩ (C D 0)).setCell ⟨w.heap.size+1+1,2,I⟩ (E ⟨#[]⟩)).setCell ⟨w.heap.size+1+1,3,I⟩ (A I 0 0)).setCell ⟨w.heap.size+1+1,4,I⟩ (A I 0 0)).heap[w.heap.size+1]? = J (.cells #[C D l,C D k] 24 (0,0)) /\
    (((((Wd.setCell ⟨w.heap.size+1+1,0,I⟩ (C D 0)).setCell ⟨w.heap.size+1+1,1,I⟩ (C D 0)).setCell ⟨w.heap.size+1+1,2,I⟩ (E ⟨#[]⟩)).setCell ⟨w.heap.size+1+1,3,I⟩ (A I 0 0)).setCell ⟨w.heap.size+1+1,4,I⟩ (A I 0 0)).heap[w.heap.size+1+1]? = J (.cells #[C D 0,C D 0,E ⟨#[]⟩,A I 0 0,A I 0 0] 53 (0,0)) /\
    (((((Wd.setCell ⟨w.heap.size+1+1,0,I⟩ (C D 0)).setCell ⟨w.heap.size+1+1,1,I⟩ (C D 0)).setCell ⟨w.heap.size+1+1,2,I⟩ (E ⟨#[]⟩)).setCell ⟨w.heap.size+1+1,3,I⟩ (A I 0 0)).setCell ⟨w.heap.size+1+1,4,I⟩ (A I 0 0)).heap[w.heap.size+1+1+1]? = J (.cells #[C D 0,C D 0,C D 0] 75 (0,0)) /\
    Below w.heap.size w (((((Wd.setCell ⟨w.heap.size+1+1,0,I⟩ (C D 0)).setCell ⟨w.heap.size+1+1,1,I⟩ (C D 0)).setCell ⟨w.heap.size+1+1,2,I⟩ (E ⟨#[]⟩)).setCell ⟨w.heap.size+1+1,3,I⟩ (A I 0 0)).setCell ⟨w.heap.size+1+1,4,I⟩ (A I 0 0))):=Lq7
   ⟨(Dt (by omega) _ _ _ _ _).trans H2.out.1,by rw[Af (Af (Af (Af (Af H2.out.2.1 0 _) 1 _) 2 _) 3 _) 4];rfl,(Dt (by omega) _ _ _ _ _).trans H2.out.2.2.1,
    Py H2.out.2.2.2 (by omega) _ _ _ _ _⟩
  refine hKx _ _ (fun _=>H3.out.1) ?_;generalize World.setCell _ _ _=W3 at H3 |-;(try simp only[gX,Act.put]);obtain⟨d0,d1,d2,d3,d4,d5,d6⟩:=Bh H3.out.2.2.1;refine Ae rfl (fun Ky hKy=>?_);go_wp2_with fail;refine hKy _ _ (fun _=>((((Ad (by omega) 2 _).trans (Ad (by omega) 1 _)).trans (Ad (by omega) 0 _)).trans H3.out.1)) ?_;refine A2 ?_;(try simp only[gX,Act.put]);obtain⟨r0,r1,r2,r3,r4,r5,r6,r7,r8,r9,aD⟩:=Aa H3.out.2.1;go_wp2_with fail;refine bodyPost_ret (v:=badV 6 l k) (by simp[badV,zeroV,Bk,results,Tryz.results122,go_sem,r1,r2,r3,r4,r5,d1,d2,d3]) rfl ?_;exact⟨((H3.out.2.2.2.setCell (p:=⟨w.heap.size+1+1+1,0,I⟩) (by show _<=w.heap.size+1+1+1;omega) _).setCell (p:=⟨w.heap.size+1+1+1,1,I⟩) (by show _<=w.heap.size+1+1+1;omega) _).setCell (p:=⟨w.heap.size+1+1+1,2,I⟩) (by show _<=w.heap.size+1+1+1;omega) _,rfl⟩
 ·rw[hck] at aB;go_enter Tryz.func122,Tryz.ntmps122;go_wp2_with fail;refine aB.out.mono ?_;rintro e w1 ⟨rfl,aA⟩;have H1:=Lq7 (aIn (stays H0.out.1 aA) (aIn (stays H0.out.2.2.1 aA) (aIn (stays H0.out.2.2.2.1 aA) (H0.out.2.2.2.2.1.trans (aA.mono H0.out.2.2.2.2.1.size)))));obtain⟨t0,t1,t2,t3,t4,t5,t6,t7,t8,t9,t10⟩:=Aa H1.out.1;obtain⟨r0,r1,r2,r3,r4,r5,r6,r7,r8,r9,aD⟩:=Aa H1.out.2.1;obtain⟨d0,d1,d2,d3,d4,d5,d6⟩:=Bh H1.out.2.2.1;go_wp2_with fail;refine bodyPost_ret (v:=.tuple #[M #[C D vk,C D vn,E vs,A a1 vl.length c1,A a2 vks.length c2],Bk 0 0 0]) (by simp[Bk,results,Tryz.results122,go_sem,r1,r2,r3,r4,r5,d1,d2,d3]) rfl ?_;refine⟨?_,rfl⟩;exact((Py H1.out.2.2.2 (by omega) _ _ _ _ _).setCell (p:=⟨w.heap.size+1+1+1,0,I⟩) (by show _<=w.heap.size+1+1+1;omega) _).setCell (p:=⟨w.heap.size+1+1+1,1,I⟩) (by show _<=w.heap.size+1+1+1;omega) _ |>.setCell (p:=⟨w.heap.size+1+1+1,2,I⟩) (by show _<=w.heap.size+1+1+1;omega) _
theorem U5(s v)(h:numOf s=J v)(w)(hT:Em w):
  Calls Tryz.prog 121 #[E s] w (fun e w'=>e = .returned (.tuple #[C D v,.bool true])/\Below w.heap.size w w'):=by
 have hp:Lib.parseIntB 64 s.data.toList = .ok v/\inR v=true/\s.size<=65536/\Lib.itoa v=s.data.toList:=by
  unfold numOf at h;split at h
  ·rename_i v' hv'
   split at h
   ·rename_i hc
    cases h;exact⟨hv',hc⟩
   ·cases h
  ·cases h
 obtain⟨h1,h2,h4,h5⟩:=hp;have Hp:=Lq7 (Tryz.strconv_ParseInt_10_at64_ok s (by omega) v h1 w);have Hn:=Lq7 (fun(w1:World) (hT1:Em w1)=>Zr v h2 w1 hT1);have H5:=Lq7 h5;have HT:=Lq7 hT;clear h h1 h5 h2 hT;go_enter Tryz.func121,Tryz.ntmps121;go_wp2_with fail;refine Hp.out.mono ?_;rintro e w1 ⟨rfl,aB⟩;have aC:Below w.heap.size w w1:=by
  rcases aB with rfl|⟨t,rfl⟩
  ·exact Below.refl _ _
  ·exact Gl w _ t
 clear aB;have aA:=Lq7 aC;clear aC;go_wp2_with fail;refine(Hn.out _ (HT.out.below aA.out)).mono ?_;rintro e w2 ⟨o,rfl,ho,aD⟩;obtain rfl:o=s:=bytes_ext (ho.trans H5.out);have hne:(o.toList != o.toList)=false:=(by simp);have Hb2:=Lq7 (aA.out.trans (aD.mono aA.out.size));clear ho aD;go_wp2_with fail
 go_ret2
 exact⟨rfl,Hb2.out⟩
mutual
def Cf:Nd->Prop
 | .mk _ t _ _ l=>t.size<=maxLen/\l.length<=1000000/\smallNs l
def smallNs:List Nd->Prop
 | []=>True
 | v::t=>Cf v/\smallNs t
end
theorem Ex:∀{l:List Nd} {x:Nd},smallNs l->x∈l->Cf x
 | _::_,_,h,.head _=>h.1
 | _::_,_,h,.tail _ hm=>Ex h.2 hm
theorem smallN_zero:Cf ndZero:=by
 unfold ndZero;rw[Cf];exact⟨Nat.zero_le _,by simp,by rw[smallNs];trivial⟩
theorem Xs{n}(h:Cf n)(i):Cf (kidN n i):=by
 obtain⟨k,t,l,c,kids⟩:=n;rw[Cf] at h;unfold kidN;show Cf ((kids[i]?).getD ndZero);cases hk:kids[i]? with
 | none=>exact smallN_zero
 | some x=>exact Ex h.2.2 (List.mem_of_getElem? hk)
def GOk(G:Nat->Prop)(c:Ctx)(w:World):Prop:=∀b,G b->b<w.heap.size/\¬c.M b
theorem GOk.mv{G c c' w w'}(h:GOk G c w)(k:Mv c w c' w'):GOk G c' w':=
 fun b hb=>⟨nll (h b hb).1 k.size,fun hm=>by rcases k.m b hm with h1|h1;exact(h b hb).2 h1;have:=(h b hb).1;omega⟩
theorem Ac.gmv{G c c' w w' a l}(h:Ac G w a l)(hG:GOk G c w)(k:Mv c w c' w'):Ac G w' a l:=
 h.mono fun b hb hl=>⟨hb,nll hl k.size,k.block b hl (hG b hb).2⟩
structure XB(c0:Ctx)(w:World)(c:Ctx)(W:World)(n v f:Array Value):Prop where
 mv:Mv c0 w c W
 size:w.heap.size+3<=W.heap.size
 na:W.heap[w.heap.size]? = J (.cells n 27 (0,0))
 vb:W.heap[w.heap.size+1]? = J (.cells v 53 (0,0))
 fc:W.heap[w.heap.size+1+1]? = J (.cells f 75 (0,0))
 out:∀b,w.heap.size<=b->b<w.heap.size+3->¬c.M b/\¬c.F b
section
variable {c0 c c':Ctx} {w W W':World} {n v f:Array Value}
theorem XB.start(h:c0.Ok w)(n v f:Array Value):XB c0 w c0 (((w.alloc (.cells n 27)).alloc (.cells v 53)).alloc (.cells f 75)) n v f:=by
 obtain⟨h1,h2,h3,h4,h5⟩:=Gg w (.cells n 27) (.cells v 53) (.cells f 75);exact⟨.of_below c0 h4,by omega,h1,h2,h3,fun b hb _=>⟨fun hm=>by have:=h.ml b hm;omega,fun hm=>by have:=h.fl b hm;omega⟩⟩
theorem XB.later(h:XB c0 w c W n v f)(k:Mv c W c' W'):XB c0 w c' W' n v f:=by
 have hs:=h.size;have hk:∀b,w.heap.size<=b->b<w.heap.size+3->W'.heap[b]? = W.heap[b]?:=fun b h1 h2=>k.block b (by omega) (h.out b h1 h2).1;refine⟨h.mv.trans k,Nat.le_trans hs k.size,(hk _ (by omega) (by omega)).trans h.na,(hk _ (by omega) (by omega)).trans h.vb,(hk _ (by omega) (by omega)).trans h.fc,fun b h1 h2=>⟨fun hm=>?_,fun hm=>?_⟩⟩
 ·rcases k.m b hm with h3|h3
  ·exact(h.out b h1 h2).1 h3
  ·omega
 ·rcases k.f b hm with h3|h3
  ·exact(h.out b h1 h2).2 h3
  ·omega
theorem XB.below(h:XB c0 w c W n v f)(k:Below W.heap.size W W'):XB c0 w c W' n v f:=h.later (.of_below c k)
def Nt(W:World)(b:Nat)(v0 v1 v2 v3 v4:Value):World:=((((W.setCell ⟨b,0,I⟩ v0).setCell ⟨b,1,I⟩ v1).setCell ⟨b,2,I⟩ v2).setCell ⟨b,3,I⟩ v3).setCell ⟨b,4,I⟩ v4
def set3(W:World)(b:Nat)(v0 v1 v2:Value):World:=((W.setCell ⟨b,0,I⟩ v0).setCell ⟨b,1,I⟩ v1).setCell ⟨b,2,I⟩ v2
theorem XB.setV{x0 x1 x2 x3 x4:Value}(h:XB c0 w c W n #[x0,x1,x2,x3,x4] f)(v0 v1 v2 v3 v4:Value):XB c0 w c (Nt W (w.heap.size+1) v0 v1 v2 v3 v4) n #[v0,v1,v2,v3,v4] f:=by
 unfold Nt;refine⟨((((h.mv.set (.inl (Nat.le_succ _)) 0 _).set (.inl (Nat.le_succ _)) 1 _).set (.inl (Nat.le_succ _)) 2 _).set (.inl (Nat.le_succ _)) 3 _).set (.inl (Nat.le_succ _)) 4 _,by simpa using h.size,(Dt (by omega) _ _ _ _ _).trans h.na,?_,(Dt (by omega) _ _ _ _ _).trans h.fc,h.out⟩;rw[Af (Af (Af (Af (Af h.vb 0 v0) 1 v1) 2 v2) 3 v3) 4 v4];rfl
theorem XB.setF{x0 x1 x2:Value}(h:XB c0 w c W n v #[x0,x1,x2])(v0 v1 v2:Value):XB c0 w c (set3 W (w.heap.size+1+1) v0 v1 v2) n v #[v0,v1,v2]:=by
 unfold set3;refine⟨((h.mv.set (.inl (by omega)) 0 _).set (.inl (by omega)) 1 _).set (.inl (by omega)) 2 _,by simpa using h.size,by rw[Ad (by omega),Ad (by omega),Ad (by omega)];exact h.na,by rw[Ad (by omega),Ad (by omega),Ad (by omega)];exact h.vb,?_,h.out⟩;rw[Af (Af (Af h.fc 0 v0) 1 v1) 2 v2];rfl
theorem XB.msV{mp mb:Nat}{hv:Dq}{st:St}(h:XB c0 w c W n v f)(hm:MS c W mp mb hv st)(v0 v1 v2 v3 v4:Value):MS c (Nt W (w.heap.size+1) v0 v1 v2 v3 v4) mp mb hv st:=
 hm.other (by unfold Nt;simp) (fun b _ aB=>Dt (fun e=>by subst e;have:=h.out (w.heap.size+1) (by omega) (by omega);rcases aB with h1|h1;exact this.1 h1;exact this.2 h1) _ _ _ _ _)
theorem XB.msF{mp mb:Nat}{hv:Dq}{st:St}(h:XB c0 w c W n v f)(hm:MS c W mp mb hv st)(v0 v1 v2:Value):MS c (set3 W (w.heap.size+1+1) v0 v1 v2) mp mb hv st:=
 hm.other (by unfold set3;simp) (fun b _ aB=>by
  have aA:b≠w.heap.size+1+1:=fun e=>(by subst e;have:=h.out (w.heap.size+1+1) (by omega) (by omega);rcases aB with h1|h1;exact this.1 h1;exact this.2 h1);unfold set3;rw[Ad aA,Ad aA,Ad aA])
theorem XB.aggV(h:XB c0 w c W n v f){ds:List Dat}{cs:List Value}(ha:Ai c.F W ds cs)(v0 v1 v2 v3 v4:Value):Ai c.F (Nt W (w.heap.size+1) v0 v1 v2 v3 v4) ds cs:=
 ha.mono fun b hF hl=>⟨hF,by unfold Nt;simpa using hl,Dt (fun e=>by subst e;exact(h.out (w.heap.size+1) (by omega) (by omega)).2 hF) _ _ _ _ _⟩
theorem XB.aggF(h:XB c0 w c W n v f){ds:List Dat}{cs:List Value}(ha:Ai c.F W ds cs)(v0 v1 v2:Value):Ai c.F (set3 W (w.heap.size+1+1) v0 v1 v2) ds cs:=
 ha.mono fun b hF hl=>⟨hF,by unfold set3;simpa using hl,by
  have aA:b≠w.heap.size+1+1:=fun e=>(by subst e;exact(h.out (w.heap.size+1+1) (by omega) (by omega)).2 hF);unfold set3;rw[Ad aA,Ad aA,Ad aA]⟩
end
def XDoes(f mp mb:Nat)(hv:Dq)(ex:Nd->EM Vl):Prop:=∀(G:Nat->Prop) (c:Ctx) (w:World) (st:St) (n:Nd) (v:Value),MS c w mp mb hv st->GOk G c w->A7 G w n v->Cf n->ex n st ≠ .out ->
 Calls Tryz.prog f #[ptr mp,v] w (EP mp mb hv EVal badV c (ex n st) w)
end Go.Proofs.YtlbbbapiklendaaGreatDoor
namespace Go.Proofs.YtlbbbapiklendaaGreatDoor
open Go.IntKind renaming i64->D
open Go.Value renaming int->C,string->E,slice->A,agg->M
open Option renaming some->J,none->I
open Go Go.RowKit Go.Maps Go.WideMaps
open List renaming getElem?_eq_getElem->lgE,mem_of_getElem? -> lgM,getElem?_map->lgP,getElem?_eq_some_iff->lgS
theorem MS.look_all{c w mp mb hv st}(h:MS c w mp mb hv st)(s)(hs:s.size<=maxLen):
  (lookN st.names s=I/\∀W',W'.heap[mb]? = w.heap[mb]? -> (Instr.lookup 71 (.map (J mb)) (E s) true).run Tryz.prog W' = .ok (.tuple #[zeroV,.bool false]) W') \/
   ∃v cs,lookN st.names s=J v/\Ai c.F w (valD v) cs/\Am v=true/\∀W',W'.heap[mb]? = w.heap[mb]? -> (Instr.lookup 71 (.map (J mb)) (E s) true).run Tryz.prog W' = .ok (.tuple #[.agg cs.toArray,.bool true]) W':=by
 obtain⟨m,h1,h2⟩:=h.names;have hk:=Ij h2 (fun q hq=>(h.few q hq).2);have look:=fun(W:World) (hW:W.heap[mb]? = w.heap[mb]?)=>(h1.of_block hW).look true (string_keyed Tryz.underlying9) Tryz.underlying71 (zeroValueV W) hk (keyOf_string_mk Tryz.underlying9 hs);by_cases hf:∃(j:Nat) (v:Value),m[j]? = J (E s,v)
 ·obtain⟨j,v,h3⟩:=hf;have aA:=(lgS.1 h3).1;have hn:st.names[j]? = J (st.names[j]'(by rw[<-h2.1];exact aA)):=lgE _;obtain⟨h5,cs,h6,h7⟩:=h2.2 j _ _ h3 hn;have hs':s=(st.names[j]'(by rw[<-h2.1];exact aA)).1:=(by injection h5);have h6':v = .agg cs.toArray:=h6;refine .inr ⟨(st.names[j]'(by rw[<-h2.1];exact aA)).2,cs,Ew h.uniq (j:=j) (by rw[hn,hs']),h7,(h.few _ (lgM hn)).1,fun W' hW=>?_⟩;rcases look W' hW with⟨h8,-⟩|⟨j',v',h8,h9⟩
  ·exact absurd rfl (h8 _ (lgM h3))
  ·have hj':=(lgS.1 h8).1;have hn':st.names[j']? = J (st.names[j']'(by rw[<-h2.1];exact hj')):=lgE _;obtain⟨h10,-⟩:=h2.2 j' _ _ h8 hn';have hs2:s=(st.names[j']'(by rw[<-h2.1];exact hj')).1:=(by injection h10);have hjj:j=j':=(List.getElem?_inj (by rw[List.length_map,<-h2.1];exact aA) h.uniq).1 (by rw[lgP,lgP,hn,hn'];simp[<-hs',<-hs2]);subst hjj;rw[h3] at h8;cases h8;rw[h9,h6'];rfl
 ·refine .inl ⟨Pw fun q hq e=>?_,fun W' hW=>?_⟩
  ·obtain⟨j,hj⟩:=List.getElem?_of_mem hq;have aA:=(lgS.1 hj).1;have hm:m[j]? = J (m[j]'(by rw[h2.1];exact aA)):=lgE _;obtain⟨h5,-⟩:=h2.2 j _ q hm hj;exact hf ⟨j,(m[j]'(by rw[h2.1];exact aA)).2,by rw[hm,<-e,<-h5]⟩
  ·rcases look W' hW with⟨-,h9⟩|⟨j',v',h8,-⟩
   ·exact h9
   ·exact absurd ⟨j',v',h8⟩ hf
theorem P0(x)(hx:inR x=true):Am (.mk 2 x ⟨#[]⟩ [] [])=true:=by
 have h:(⟨#[]⟩:ByteArray).toList.isEmpty=true:=(by rw[Lib.toList_data];rfl);simp[Am,mayV,Co,Bz,hx]
theorem U6{s v}(h:fixedV s=J v):Am v=true:=by
 have h0:(⟨#[]⟩:ByteArray).toList.isEmpty=true:=(by rw[Lib.toList_data];rfl);unfold fixedV at h;split at h
 ·cases h;simp[Am,mayV,Co,Bz]
 ·split at h
  ·cases h;simp[Am,mayV,Co,Bz]
  ·split at h
   ·cases h;simp[vZero,Am,mayV,Co,Bz]
   ·cases h
end Go.Proofs.YtlbbbapiklendaaGreatDoor
namespace Go.Proofs.YtlbbbapiklendaaGreatDoor
open Go.IntKind renaming i64->D
open Go.Value renaming int->C,string->E,slice->A,agg->M
open Option renaming some->J,none->I
open Go Go.RowKit
open Nat renaming le_refl->nlr,lt_of_lt_of_le->nll,le_trans->nlt,zero_le->nlz
open Go.RowKit.Below renaming refl->bRf
open List renaming mem_cons_self->lmS,length_map->lnM,getElem?_map->lgP,mem_of_getElem? -> lgM,getElem?_eq_some_iff->lgS,set_cons_zero->lsA,set_cons_succ->lsB,getElem?_eq_getElem->lgE
open Go.Lib renaming toList_data->Lq8,hid->Lq7
set_option maxRecDepth 100000
set_option maxHeartbeats 16000000
theorem str_any(t w):
  Calls Tryz.prog 123 #[E t] w (fun e w'=>e = .returned (M #[C D 3,C D 0,E t,A I 0 0,A I 0 0])/\Below w.heap.size w w'):=by
 obtain⟨r0,r1,r2,r3,r4,r5,r6,r7,r8,r9,r10⟩:=Aa (heap_alloc_new w (.cells #[C D 0,C D 0,E ⟨#[]⟩,A I 0 0,A I 0 0] 53));go_enter Tryz.func123,Tryz.ntmps123;go_wp2_with fail;refine bodyPost_ret (v:=M #[C D 3,C D 0,E t,A I 0 0,A I 0 0]) (by simp[results,Tryz.results123,go_sem]) rfl ?_;exact⟨rfl,(bRf _ w).alloc (nlr _) _⟩
def P1(ex:Nd->EM Vl)(n:Nd):EM Vl:=EM.bind (Ip ex n.kids []) fun l=>D8 (.mk 4 0 ⟨#[]⟩ l []) n.ln n.cl
theorem Ol{l}(h:∀x∈l,Ay x):B6 l:=by
 induction l with
 | nil=>rw[B6];trivial
 | cons v t ih=>rw[B6];exact⟨h v (lmS ..),ih fun x hx=>h x (List.mem_cons_of_mem _ hx)⟩
theorem MS.join{c c' w w' mp mb hv hv' st st'}(h:MS c w mp mb hv st)(k:Mv c w c' w')(h':MS c' w' mp mb hv' st'):MS (c'.with c.F) w' mp mb hv' st':=
 h'.with fun b hb=>⟨nll (h.ok.fl b hb) k.size,fun hm=>by
  rcases k.m b hm with h1|h1
  ·exact h.ok.apart b hb h1
  ·have:=h.ok.fl b hb;omega⟩
theorem Mv.join{c c' w w'}(k:Mv c w c' w'):Mv c w (c'.with c.F) w':=
 ⟨k.os,k.tape,k.output,k.size,k.block,k.m,fun b hb=>by rcases hb with hb|hb;exact k.f b hb;exact .inl hb⟩
theorem Ai.join{c c' w w'}(ok:c.Ok w)(k:Mv c w c' w'){ds cs}(h:Ai c.F w ds cs):Ai (c'.with c.F).F w' ds cs:=
 h.mono fun b hb hl=>⟨.inr hb,nll hl k.size,k.block b hl (ok.apart b hb)⟩
theorem XB.with{c0 c w W n v f}(h:XB c0 w c W n v f){g}(hg:∀b,g b->w.heap.size+3<=b):XB c0 w (c.with g) W n v f:=
 ⟨h.mv.with fun b hb=>by have:=hg b hb;omega,h.size,h.na,h.vb,h.fc,fun b h1 h2=>⟨(h.out b h1 h2).1,fun hm=>by
  rcases hm with hm|hm
  ·exact(h.out b h1 h2).2 hm
  ·have:=hg b hm;omega⟩⟩
structure LI(mp mb:Nat)(hv:Dq)(G:Nat->Prop)(c0:Ctx)(w:World)(node:Array Value)(a:Option Addr)(kids:List Nd)(c:Ctx)(W:World)(st:St)(L:Value)(acc:List Vl):Prop where
 xb:XB c0 w c W node #[C D 0,C D 0,E ⟨#[]⟩,A I 0 0,A I 0 0] #[C D 0,C D 0,C D 0]
 sb:W.heap[w.heap.size+1+1+1]? = J (.cells #[C D 4,C D 0,E ⟨#[]⟩,L,A I 0 0] 53 (0,0))
 so:¬c.M (w.heap.size+1+1+1)/\¬c.F (w.heap.size+1+1+1)
 own:OwnD c.F W (w.heap.size+1+1+1+1) 53 5 L (Ar acc)
 oo:∀g,L.ownBlock=J g->¬c.M g/\¬c.F g
 ms:MS c W mp mb hv st
 g:GOk G c W
 g0:∀b,G b->b<w.heap.size
 row:Ac G W a (Au kids)
 chk:∀x∈acc,Am x=true
section
variable {mp mb:Nat} {hv:Dq} {G:Nat->Prop} {c0 c c':Ctx} {w W W':World} {node:Array Value} {a:Option Addr} {kids:List Nd} {st st':St} {L:Value} {acc:List Vl}
theorem OwnD.wide{F G:Nat->Prop}{w:World}{base:Nat}{e:TypeId}{size:Nat}{v:Value}{l:List (List Dat)}(h:OwnD F w base e size v l)(hF:∀b,F b->G b):OwnD G w base e size v l:=by
 obtain⟨css,h1,h2,h3,h4⟩:=h;exact⟨css,h1,h2,h3,fun j ds cs h5 h6=>(h4 j ds cs h5 h6).wider fun b hb _=>⟨hF b hb.1,hb.2⟩⟩
end
def OpC:Prop:=∀(t:ByteArray) (F:Nat->Prop) (k x:Int) (s:ByteArray) (l:List Vl) (ks:List ByteArray) (k' y:Int) (s':ByteArray) (m:List Vl) (ks':List ByteArray) (a1:Option Addr) (c1:Nat) (a2:Option Addr) (c2:Nat) (a3:Option Addr) (c3:Nat) (a4:Option Addr) (c4:Nat) (w:World),
 Am (.mk k x s l ks)=true->Am (.mk k' y s' m ks')=true->(∀b,F b->b<w.heap.size)->StdB w->Ac F w a1 (Ar l)->Ac F w a2 (Bn ks)->Ac F w a3 (Ar m)->Ac F w a4 (Bn ks') ->
 Calls Tryz.prog 163 #[E t,M #[C D k,C D x,E s,A a1 l.length c1,A a2 ks.length c2],M #[C D k',C D y,E s',A a3 m.length c3,A a4 ks'.length c4]] w (fun e w'=>Below w.heap.size w w'/\match opL t.data.toList (.mk k x s l ks) (.mk k' y s' m ks') with
  | .ok v=>∃cs:List Value,e = .returned (.tuple #[.agg cs.toArray,C D 0])/\Ai (fun b=>F b\/w.heap.size<=b) w' (valD v) cs
  | .error n=>e = .returned (.tuple #[zeroV,C D n]))
theorem Ey(b):Am (truthL b)=true:=by
 have h0:(⟨#[]⟩:ByteArray).toList.isEmpty=true:=(by rw[Lq8];rfl);cases b<;>simp[truthL,Am,mayV,Co,Bz]
theorem Rq(F w b):Ai F w (valD (truthL b)) [C D 1,C D (if b then 1 else 0),E ⟨#[]⟩,A I 0 0,A I 0 0]:=Ai.val_mk (l:=[]) (ks:=[]) _ _ _ _ _ (Ac.nil _) (Ac.nil _)
theorem Xt{s}(h:s.size<=65536):Am (Fx s)=true:=by
 simp[Fx,Am,mayV,Co,Bz,h]
theorem opL_nz{t a b e}(h:opL t a b = .error e):e≠0:=by
 unfold opL at h;split at h
 ·cases h
 split at h
 ·cases h
 split at h
 ·unfold Qj at h;split at h
  ·cases h;decide
  split at h
  ·split at h
   ·cases h
   ·cases h;decide
  split at h
  ·split at h
   ·cases h;decide
   ·cases h
  split at h
  ·split at h
   ·cases h;decide
   ·split at h
    ·cases h
    ·cases h;decide
  ·cases h;decide
 split at h
 ·unfold inL at h;split at h
  ·cases h
  split at h
  ·cases h
  split at h
  ·cases h
  ·cases h;decide
 ·cases h;decide
theorem Aai{t:List UInt8}{a b v:Vl}(h:opL t a b = .ok v)(_:Am a=true)(_:Am b=true):Am v=true:=by
 unfold opL at h;split at h
 ·cases h;exact Ey _
 split at h
 ·cases h;exact Ey _
 split at h
 ·unfold Qj at h;split at h
  ·cases h
  split at h
  ·split at h
   ·rename_i hin
    cases h;exact P0 _ hin
   ·cases h
  split at h
  ·split at h
   ·cases h
   ·rename_i hs
    cases h;exact Xt (by rw[ByteArray.size_append];omega)
  split at h
  ·split at h
   ·cases h
   ·split at h
    ·rename_i hc
     cases h;exact hc
    ·cases h
  ·cases h
 split at h
 ·unfold inL at h;split at h
  ·cases h;exact Ey _
  split at h
  ·cases h;exact Ey _
  split at h
  ·cases h;exact Ey _
  ·cases h
 ·cases h
structure DI(mp mb:Nat)(hv:Dq)(G:Nat->Prop)(c0:Ctx)(w:World)(node:Array Value)(a:Option Addr)(kids:List Nd)(c:Ctx)(W:World)(st:St)(acc:List (ByteArray×Vl)):Prop where
 xb:XB c0 w c W node #[C D 0,C D 0,E ⟨#[]⟩,A I 0 0,A I 0 0] #[C D 0,C D 0,C D 0]
 nm:NM c.F W (w.heap.size+1+1+1) acc
 so:¬c.M (w.heap.size+1+1+1)/\¬c.F (w.heap.size+1+1+1)
 ms:MS c W mp mb hv st
 g:GOk G c W
 g0:∀b,G b->b<w.heap.size
 row:Ac G W a (Au kids)
section
variable {mp mb:Nat} {hv:Dq} {G:Nat->Prop} {c0 c c':Ctx} {w W W':World} {node:Array Value} {a:Option Addr} {kids:List Nd} {st st':St} {acc:List (ByteArray×Vl)}
theorem DI.below(h:DI mp mb hv G c0 w node a kids c W st acc)(k:Below W.heap.size W W'):DI mp mb hv G c0 w node a kids c W' st acc:=
 ⟨h.xb.below k,h.nm.below k,h.so,h.ms.below k,h.g.mv (.of_below c k),h.g0,h.row.below k⟩
theorem DI.later(h:DI mp mb hv G c0 w node a kids c W st acc)(k:Mv c W c' W')(h':MS c' W' mp mb hv st'):DI mp mb hv G c0 w node a kids (c'.with c.F) W' st' acc:=by
 have hsl:=h.nm.lt;refine⟨h.xb.later k.join,h.nm.keep (k.block _ hsl h.so.1) (fun b hb hl=>⟨.inr hb,nll hl k.size,k.block b hl (h.ms.ok.apart b hb)⟩),⟨fun hm=>?_,fun hm=>?_⟩,h.ms.join k h',h.g.mv k.join,h.g0,h.row.gmv h.g k⟩
 ·rcases k.m _ hm with h1|h1
  ·exact h.so.1 h1
  ·omega
 ·rcases hm with hm|hm
  ·rcases k.f _ hm with h1|h1
   ·exact h.so.2 h1
   ·omega
  ·exact h.so.2 hm
theorem DI.put(h:DI mp mb hv G c0 w node a kids c W st acc)(s:ByteArray)(hs:s.size<=maxLen)(x:Vl)(cs:List Value)(hc:Ai c.F W (valD x) cs)(hck:Am x=true):
  ∃o,(Instr.mapUpdate 71 (.map (J (w.heap.size+1+1+1))) (E s) (.agg cs.toArray)).run Tryz.prog W = .ok () (W.putObj (w.heap.size+1+1+1) o)/\DI mp mb hv G c0 w node a kids c (W.putObj (w.heap.size+1+1+1) o) st (putN acc s x):=by
 obtain⟨o,h1,h2⟩:=h.nm.store h.so.2 s hs x cs hc hck;have hsz:(W.putObj (w.heap.size+1+1+1) o).heap.size=W.heap.size:=(by simp[World.putObj]);have ho:∀b,b≠w.heap.size+1+1+1->(W.putObj (w.heap.size+1+1+1) o).heap[b]? = W.heap[b]?:=fun b hb=>World.putObj_heap_other hb;have hmf:∀b,(c.M b\/c.F b)->b≠w.heap.size+1+1+1:=fun b hb e=>by
  subst e;rcases hb with hb|hb
  ·exact h.so.1 hb
  ·exact h.so.2 hb
 refine⟨o,h1,⟨⟨h.xb.mv.os,h.xb.mv.tape,h.xb.mv.output,by rw[hsz];exact h.xb.mv.size,fun b hb hn=>(ho b (by omega)).trans (h.xb.mv.block b hb hn),h.xb.mv.m,h.xb.mv.f⟩,by rw[hsz];exact h.xb.size,(ho _ (by omega)).trans h.xb.na,(ho _ (by omega)).trans h.xb.vb,(ho _ (by omega)).trans h.xb.fc,h.xb.out⟩,h2,h.so,h.ms.other (by rw[hsz];exact nlr _) (fun b _ hb=>ho b (hmf b hb)),fun b hb=>⟨by rw[hsz];exact(h.g b hb).1,(h.g b hb).2⟩,h.g0,h.row.mono fun b hb hl=>⟨hb,by rw[hsz];exact hl,ho b (by have:=h.g0 b hb;omega)⟩⟩
end
theorem Pz(m):(C5 m).length=m.length:=by
 simp[C5,Ez]
theorem U4{m s}(h:lookN m s=I):∀q∈m,q.1≠s:=by
 intro q hq e;unfold lookN at h;rw[Option.map_eq_none_iff,List.find?_eq_none] at h;exact h q hq (by rw[e];simp)
theorem OwnS.rowAt{F w base v l}(h:OwnS w base v l)(hF:∀g,v.ownBlock=J g->F g):∃a cap,v = A a l.length cap/\Ac F w a (Bn l):=by
 obtain⟨a,cap,hv,hs,-⟩:=h.strsAt;refine⟨a,cap,hv,fun j ds hj=>?_⟩;rw[Bn,lgP] at hj;cases hl:l[j]? with
 | none=>rw[hl] at hj;cases hj
 | some x=>
  rw[hl] at hj;cases hj;obtain⟨b,off,rfl,hc⟩:=hs j x hl;refine⟨b,off,[E x],rfl,hF b (by rw[hv];rfl),Ax hc,.cons (.one _) .nil,fun i u hu=>?_⟩;cases i with
  | zero=>simp at hu;subst hu;simpa using hc
  | succ i=>simp at hu
theorem Xq(m):Cs m=(C5 m).map (·.1):=by
 simp[Cs,C5,List.map_map,Function.comp_def]
theorem Aah{m}(h:∀q∈m,Am q.2=true/\q.1.size<=maxLen):∀q∈C5 m,Am q.2=true/\q.1.size<=maxLen:=by
 intro q hq;unfold C5 at hq;obtain⟨b,hb,rfl⟩:=List.mem_map.1 hq;have hb':=(List.mergeSort_perm (m.map (·.1.data.toList)) (fun x y=>decide (x<=y))).mem_iff.1 hb;obtain⟨r,hr,rfl⟩:=List.mem_map.1 hb';have hsz:(⟨r.1.data.toList.toArray⟩:ByteArray)=r.1:=(by simp);show Am ((lookN m _).getD vZero)=true/\(⟨r.1.data.toList.toArray⟩:ByteArray).size<=maxLen;rw[hsz];refine⟨?_,(h r hr).2⟩;cases hf:lookN m r.1 with
 | none=>exact absurd rfl (U4 hf r hr)
 | some v=>
  unfold lookN at hf;obtain⟨p,hp,rfl⟩:=Option.map_eq_some_iff.1 hf;exact(h p (List.mem_of_find?_eq_some hp)).1
theorem Xr{m}(hl:m.length<=1000000)(h:∀q∈m,Am q.2=true/\q.1.size<=maxLen):Ay (J7 m):=by
 unfold J7;rw[Ay];have hc:=Aah h;refine⟨⟨by decide,rfl⟩,by rw[lnM,Pz];omega,by rw[lnM,Pz];omega,fun s hs=>?_,Ol fun x hx=>?_⟩
 ·obtain⟨q,hq,rfl⟩:=List.mem_map.1 hs;have:=(hc q hq).2;unfold maxLen at this;omega
 ·obtain⟨q,hq,rfl⟩:=List.mem_map.1 hx;exact Bw (hc q hq).1
structure SI(F:Nat->Prop)(vb:Nat)(K:Value)(w3:World)(W:World)(L:Value)(items:List Vl):Prop where
 sb:W.heap[vb]? = J (.cells #[C D 5,C D 0,E ⟨#[]⟩,L,K] 53 (0,0))
 own:OwnD F W (vb+1) 53 5 L (Ar items)
 bw:Below vb w3 W
 fl:∀b,F b->b<vb
section
variable {F:Nat->Prop} {vb:Nat} {K L L':Value} {w3 W W':World} {items:List Vl}
theorem SI.below(h:SI F vb K w3 W L items)(k:Below W.heap.size W W'):SI F vb K w3 W' L items:=
 ⟨stays h.sb k,h.own.below k,h.bw.trans (k.mono (Nat.le_of_lt (here h.sb))),h.fl⟩
theorem SI.grown(h:SI F vb K w3 W L items){x:Vl}(ho:OwnD F W' (vb+1) 53 5 L' (Ar items++[valD x]))(k:W.grownBy W' L.ownBlock):SI F vb K w3 (W'.setCell ⟨vb,3,I⟩ L') L' (items++[x]):=by
 have aA:∀g,L.ownBlock=J g->vb+1<=g:=fun g hg=>(h.own.block_lt hg).1;have hsb:=(k.block vb (here h.sb) (fun e=>by have:=aA vb e.symm;omega)).trans h.sb;refine⟨by rw[Af hsb 3];rfl,?_,?_,h.fl⟩
 ·rw[Fi];refine OwnD.keep (show OwnD F W' _ _ 5 L' (Ar items++Ar [x]) by simpa[Ar] using ho) (fun b hb hm=>Ad (fun e=>by
   subst e;rcases hm with hm|hm
   ·have:=h.fl b hm;omega
   ·have:=(ho.block_lt hm).1;omega) 3 _) (by simp)
 ·exact(h.bw.trans (Cz k (fun g hg=>by have:=aA g hg;omega) (Nat.le_of_lt (here h.sb)))).setCell (p:=⟨vb,3,I⟩) (nlr _) _
end
structure OwS where
 O:Nat->Prop
 At:(Nat->Prop)->World->Prop
 stab:∀{F F':Nat->Prop} {W W':World},At F W->(∀b,F b->F' b)->W.heap.size<=W'.heap.size->(∀b,O b\/F b->b<W.heap.size->W'.heap[b]? = W.heap[b]?)->At F' W'
 lt:∀{F:Nat->Prop} {W:World} {b:Nat},At F W->O b->b<W.heap.size
def OwS.nil:OwS:=⟨fun _=>False,fun _ _=>True,fun _ _ _ _=>trivial,fun _ h=>h.elim⟩
structure EI(c0:Ctx)(w:World)(mp mb:Nat)(hv:Dq)(G:Nat->Prop)(lv:Bool)(c:Ctx)(st:St)(ls:List (Nat×Array Value×TypeId))(nr:List (Option Addr×List Nd))(vr:List (List Dat×List Value))(ow:OwS)(W:World):Prop where
 mv:Mv c0 w c W
 ok:c.Ok W
 ms:lv=true->MS c W mp mb hv st
 locs:Locs W ls
 own:∀x∈ls,w.heap.size<=x.1
 out:∀x∈ls,¬c.M x.1/\¬c.F x.1
 dist:(ls.map (·.1)).Nodup
 g:GOk G c W
 gw:∀b,G b->b<w.heap.size
 nr:∀r∈nr,Ac G W r.1 (Au r.2)
 vr:∀r∈vr,Ai c.F W r.1 r.2
 at':ow.At c.F W
 oo:∀b,ow.O b->(¬c.M b/\¬c.F b)/\w.heap.size<=b/\∀x∈ls,x.1≠b
 f0:∀b,c0.F b->c.F b
section
variable {c0 c c':Ctx} {w W W':World} {mp mb:Nat} {hv:Dq} {G:Nat->Prop} {lv:Bool} {st st':St} {ls:List (Nat×Array Value×TypeId)} {nr:List (Option Addr×List Nd)} {vr:List (List Dat×List Value)} {ow:OwS}
theorem EI.lt(h:EI c0 w mp mb hv G lv c st ls nr vr ow W){x:Nat×Array Value×TypeId}(hx:x∈ls):x.1<W.heap.size:=(Array.getElem?_eq_some_iff.1 (h.locs x hx)).1
theorem EI.la(h:EI c0 w mp mb hv G lv c st ls nr vr ow W):C4 W ls:=Jz _ h.locs
theorem EI.start(hm:MS c w mp mb hv st)(hG:GOk G c w){a:Option Addr}{kids:List Nd}(hr:Ac G w a (Au kids)):EI c w mp mb hv G true c st [] [(a,kids)] [] .nil w:=
 ⟨.refl _ _,hm.ok,fun _=>hm,(by intro x hx;cases hx),(by intro x hx;cases hx),(by intro x hx;cases hx),.nil,hG,fun b hb=>(hG b hb).1,fun r hr'=>by
  obtain rfl:r=(a,kids):=(by simpa using hr');exact hr,(by intro x hx;cases hx),trivial,fun _ h=>h.elim,fun _ h=>h⟩
def noK:Dq:=⟨.bool true,fun _ _=>I,fun _ _ _ _=>False,fun h _ _ _=>h,fun h=>h.elim⟩
theorem EI.init{F:Nat->Prop}(hF:∀b,F b->b<w.heap.size)(hG:∀b,G b->b<w.heap.size):EI ⟨fun _=>False,F⟩ w 0 0 noK G false ⟨fun _=>False,F⟩ ⟨[],0,[]⟩ [] [] [] .nil w:=
 ⟨.refl _ _,⟨fun _ h=>h.elim,hF,fun _ _ h=>h⟩,(by intro e;cases e),(by intro x hx;cases hx),(by intro x hx;cases hx),(by intro x hx;cases hx),.nil,fun b hb=>⟨hG b hb,fun h=>h⟩,hG,(by intro x hx;cases hx),(by intro x hx;cases hx),trivial,fun _ h=>h.elim,fun _ h=>h⟩
theorem EI.bel{F:Nat->Prop}(h:EI ⟨fun _=>False,F⟩ w mp mb hv G lv c st ls nr vr ow W):Below w.heap.size w W:=⟨h.mv.os,h.mv.tape,h.mv.output,h.mv.size,fun b hb=>h.mv.block b hb fun h=>h⟩
theorem EI.below(h:EI c0 w mp mb hv G lv c st ls nr vr ow W)(hb:Below W.heap.size W W'):EI c0 w mp mb hv G lv c st ls nr vr ow W':=
 ⟨h.mv.below hb,h.ok.below hb.size,fun e=>(h.ms e).below hb,fun x hx=>(hb.block _ (h.lt hx)).trans (h.locs x hx),h.own,h.out,h.dist,h.g.mv (.of_below c hb),h.gw,fun r hr=>(h.nr r hr).below hb,fun r hr=>(h.vr r hr).below hb,ow.stab h.at' (fun _ h=>h) hb.size (fun b _ hl=>hb.block b hl),h.oo,h.f0⟩
theorem EI.drew(h:EI c0 w mp mb hv G lv c st ls nr vr ow W):EI c0 w mp mb hv G lv c st ls nr vr ow W.drew:=h.below ((bRf _ W).drew)
theorem EI.alloc(h:EI c0 w mp mb hv G lv c st ls nr vr ow W)(cs:Array Value)(T:TypeId):EI c0 w mp mb hv G lv c st (ls++[(W.heap.size,cs,T)]) nr vr ow (W.alloc (.cells cs T)):=by
 obtain⟨h1,ho,h2,h3,h4,h5,h6,h7,h8,h9,h10,h11,aE,h13⟩:=h.below ((bRf _ W).alloc (nlr _) (.cells cs T));refine⟨h1,ho,h2,fun x hx=>?_,fun x hx=>?_,fun x hx=>?_,?_,h7,h8,h9,h10,h11,fun b hb=>⟨(aE b hb).1,(aE b hb).2.1,fun x hx=>?_⟩,h13⟩
 ·rcases List.mem_append.1 hx with hx|hx
  ·exact h3 x hx
  ·obtain rfl:=List.mem_singleton.1 hx;exact heap_alloc_new W _
 ·rcases List.mem_append.1 hx with hx|hx
  ·exact h4 x hx
  ·obtain rfl:=List.mem_singleton.1 hx;exact h.mv.size
 ·rcases List.mem_append.1 hx with hx|hx
  ·exact h5 x hx
  ·obtain rfl:=List.mem_singleton.1 hx;exact⟨fun hm=>absurd (h.ok.ml _ hm) (Nat.lt_irrefl _),fun hm=>absurd (h.ok.fl _ hm) (Nat.lt_irrefl _)⟩
 ·rw[List.map_append,List.nodup_append];refine⟨h6,by simp,fun a ha b hb=>?_⟩;obtain⟨x,hx,rfl⟩:=List.mem_map.1 ha;obtain rfl:b=W.heap.size:=(by simpa using hb);have:=h.lt hx;omega
 ·rcases List.mem_append.1 hx with hx|hx
  ·exact(aE b hb).2.2 x hx
  ·obtain rfl:=List.mem_singleton.1 hx;have:=ow.lt h.at' hb;exact fun e=>(by simp only at e;omega)
theorem EI.call(h:EI c0 w mp mb hv G lv c st ls nr vr ow W)(k:Mv c W c' W')(ho:c'.Ok W')(h':lv=true->MS c' W' mp mb hv st'):EI c0 w mp mb hv G lv (c'.with c.F) st' ls nr vr ow W':=
 ⟨h.mv.trans k.join,ho.with fun b hb=>⟨nll (h.ok.fl b hb) k.size,fun hm=>by
   rcases k.m b hm with h1|h1
   ·exact h.ok.apart b hb h1
   ·have:=h.ok.fl b hb;omega⟩,
  fun e=>(h.ms e).join k (h' e),fun x hx=>(k.block _ (h.lt hx) (h.out x hx).1).trans (h.locs x hx),h.own,
  fun x hx=>⟨fun hm=>by
   rcases k.m _ hm with h1|h1
   ·exact(h.out x hx).1 h1
   ·have:=h.lt hx;omega,fun hm=>by
   rcases hm with hm|hm
   ·rcases k.f _ hm with h1|h1
    ·exact(h.out x hx).2 h1
    ·have:=h.lt hx;omega
   ·exact(h.out x hx).2 hm⟩,h.dist,h.g.mv k.join,h.gw,fun r hr=>(h.nr r hr).gmv h.g k,fun r hr=>(h.vr r hr).join h.ok k,ow.stab h.at' (fun _ h=> .inr h) k.size (fun b hb hl=>k.block b hl (hb.elim (fun h1=>(h.oo b h1).1.1) (h.ok.apart b))),
  fun b hb=>⟨⟨fun hm=>by
   rcases k.m _ hm with h1|h1
   ·exact(h.oo b hb).1.1 h1
   ·have:=ow.lt h.at' hb;omega,fun hm=>by
   rcases hm with hm|hm
   ·rcases k.f _ hm with h1|h1
    ·exact(h.oo b hb).1.2 h1
    ·have:=ow.lt h.at' hb;omega
   ·exact(h.oo b hb).1.2 hm⟩,(h.oo b hb).2⟩,fun b hb=> .inr (h.f0 b hb)⟩
theorem EI.val(h:EI c0 w mp mb hv G lv c st ls nr vr ow W){ds:List Dat}{cs:List Value}(ha:Ai c.F W ds cs):EI c0 w mp mb hv G lv c st ls nr ((ds,cs)::vr) ow W:=
 ⟨h.mv,h.ok,h.ms,h.locs,h.own,h.out,h.dist,h.g,h.gw,h.nr,fun r hr=>by
  rcases List.mem_cons.1 hr with rfl|hr
  ·exact ha
  ·exact h.vr r hr,h.at',h.oo,h.f0⟩
theorem EI.node(h:EI c0 w mp mb hv G lv c st ls nr vr ow W){a:Option Addr}{l:List Nd}(ha:Ac G W a (Au l)):EI c0 w mp mb hv G lv c st ls ((a,l)::nr) vr ow W:=
 ⟨h.mv,h.ok,h.ms,h.locs,h.own,h.out,h.dist,h.g,h.gw,fun r hr=>by
  rcases List.mem_cons.1 hr with rfl|hr
  ·exact ha
  ·exact h.nr r hr,h.vr,h.at',h.oo,h.f0⟩
theorem EI.dead(h:EI c0 w mp mb hv G lv c st ls nr vr ow W):EI c0 w mp mb hv G false c st ls nr vr ow W:=⟨h.mv,h.ok,fun e=>(by cases e),h.locs,h.own,h.out,h.dist,h.g,h.gw,h.nr,h.vr,h.at',h.oo,h.f0⟩
theorem EI.set(h:EI c0 w mp mb hv G lv c st ls nr vr ow W)(j:Nat){b:Nat}{cs:Array Value}{T:TypeId}(hj:ls[j]? = J (b,cs,T))(i:Nat)(v:Value):EI c0 w mp mb hv G lv c st (ls.set j (b,cs.setIfInBounds i v,T)) nr vr ow (W.setCell ⟨b,i,I⟩ v):=by
 have hm:(b,cs,T)∈ls:=lgM hj;have hb:w.heap.size<=b:=h.own _ hm;have aD:¬c.M b/\¬c.F b:=h.out _ hm;have hX:∀k,k≠b->(W.setCell ⟨b,i,I⟩ v).heap[k]? = W.heap[k]?:=fun k hk=>Ad hk i v;have hs:(W.setCell ⟨b,i,I⟩ v).heap.size=W.heap.size:=(by simp);have aB:∀x∈ls.set j (b,cs.setIfInBounds i v,T),x=(b,cs.setIfInBounds i v,T)\/(x∈ls/\x.1≠b):=fun x hx=>by
  obtain⟨k,hk⟩:=List.mem_iff_getElem?.1 hx;rw[List.getElem?_set] at hk;split at hk
  ·split at hk
   ·exact .inl (Option.some.inj hk).symm
   ·cases hk
  ·rename_i hne
   refine .inr ⟨lgM hk,fun e=>hne ?_⟩;have aA:=(lgS.1 hj).1;have hkl:=(lgS.1 hk).1;refine(List.getElem_inj (h₀:=by simpa using aA) (h₁:=by simpa using hkl) h.dist).1 ?_;have h1:=(lgS.1 hj).2;have h2:=(lgS.1 hk).2;simp only[List.getElem_map,h1,h2,e]
 have aF:(ls.set j (b,cs.setIfInBounds i v,T)).map (·.1)=ls.map (·.1):=by
  rw[List.map_set];refine List.ext_getElem? fun k=>?_;rw[List.getElem?_set];split
  ·rename_i e
   subst e;rw[lgP,hj];simp[(lgS.1 hj).1]
  ·rfl
 have hg:∀k,G k->k≠b:=fun k hk e=>(by have:=h.gw k hk;omega);refine⟨h.mv.set (.inl hb) i v,h.ok.below (by omega),fun e=>(h.ms e).other (by omega) (fun k _ hk=>hX k (fun e=>by
   subst e;rcases hk with hk|hk
   ·exact aD.1 hk
   ·exact aD.2 hk)),fun x hx=>?_,fun x hx=>?_,fun x hx=>?_,by rw[aF];exact h.dist,fun k hk=>⟨by rw[hs];exact(h.g k hk).1,(h.g k hk).2⟩,h.gw,fun r hr=>(h.nr r hr).mono fun k hk hl=>⟨hk,by omega,hX k (hg k hk)⟩,fun r hr=>(h.vr r hr).mono fun k hk hl=>⟨hk,by omega,hX k (fun e=>aD.2 (e▸hk))⟩,ow.stab h.at' (fun _ h=>h) (by omega) (fun k hk _=>hX k (fun e=>by
   subst e;rcases hk with hk|hk
   ·exact(h.oo k hk).2.2 _ hm rfl
   ·exact aD.2 hk)),fun k hk=>⟨(h.oo k hk).1,(h.oo k hk).2.1,fun x hx=>?_⟩,h.f0⟩
 ·rcases aB x hx with rfl|⟨hx,hne⟩
  ·exact Af (h.locs _ hm) i v
  ·rw[hX _ hne];exact h.locs x hx
 ·rcases aB x hx with rfl|⟨hx,hne⟩
  ·exact hb
  ·exact h.own x hx
 ·rcases aB x hx with rfl|⟨hx,hne⟩
  ·exact aD
  ·exact h.out x hx
 ·rcases aB x hx with rfl|⟨hx,-⟩
  ·exact(h.oo k hk).2.2 (b,cs,T) hm
  ·exact(h.oo k hk).2.2 x hx
theorem EI.w53(j:Nat)(h:EI c0 w mp mb hv G lv c st ls nr vr ow W){b:Nat}{x0 x1 x2 x3 x4 v:Value}{T:TypeId}(hj:ls[j]? = J (b,#[x0,x1,x2,x3,x4],T):=by with_unfolding_all rfl):EI c0 w mp mb hv G lv c st (ls.set j (b,#[x0,x1,x2,v,x4],T)) nr vr ow (W.setCell ⟨b,3,I⟩ v):=h.set j hj 3 v
theorem EI.w41(j:Nat)(h:EI c0 w mp mb hv G lv c st ls nr vr ow W){b:Nat}{x0 x1 x2 x3 v:Value}{T:TypeId}(hj:ls[j]? = J (b,#[x0,x1,x2,x3],T):=by with_unfolding_all rfl):EI c0 w mp mb hv G lv c st (ls.set j (b,#[x0,v,x2,x3],T)) nr vr ow (W.setCell ⟨b,1,I⟩ v):=h.set j hj 1 v
theorem EI.put2(h:EI c0 w mp mb hv G lv c st ls nr vr ow W)(j:Nat){b:Nat}{x0 x1:Value}{T:TypeId}(hj:ls[j]? = J (b,#[x0,x1],T))(v0 v1:Value):
  EI c0 w mp mb hv G lv c st (ls.set j (b,#[v0,v1],T)) nr vr ow ((W.setCell ⟨b,0,I⟩ v0).setCell ⟨b,1,I⟩ v1):=by
 have aA:=(lgS.1 hj).1;have h1:=h.set j hj 0 v0;have h2:=h1.set j (b:=b) (cs:=#[v0,x1]) (T:=T) (by rw[List.getElem?_set_self aA];rfl) 1 v1;rw[List.set_set] at h2;exact h2
theorem EI.put5(h:EI c0 w mp mb hv G lv c st ls nr vr ow W)(j:Nat){b:Nat}{x0 x1 x2 x3 x4:Value}{T:TypeId}(hj:ls[j]? = J (b,#[x0,x1,x2,x3,x4],T))(v0 v1 v2 v3 v4:Value):
  EI c0 w mp mb hv G lv c st (ls.set j (b,#[v0,v1,v2,v3,v4],T)) nr vr ow (((((W.setCell ⟨b,0,I⟩ v0).setCell ⟨b,1,I⟩ v1).setCell ⟨b,2,I⟩ v2).setCell ⟨b,3,I⟩ v3).setCell ⟨b,4,I⟩ v4):=by
 have aA:=(lgS.1 hj).1;have h1:=h.set j hj 0 v0;have h2:=h1.set j (b:=b) (cs:=#[v0,x1,x2,x3,x4]) (T:=T) (by rw[List.getElem?_set_self aA];rfl) 1 v1;rw[List.set_set] at h2;have h3:=h2.set j (b:=b) (cs:=#[v0,v1,x2,x3,x4]) (T:=T) (by rw[List.getElem?_set_self aA];rfl) 2 v2;rw[List.set_set] at h3;have h4:=h3.set j (b:=b) (cs:=#[v0,v1,v2,x3,x4]) (T:=T) (by rw[List.getElem?_set_self aA];rfl) 3 v3;rw[List.set_set] at h4;have h5:=h4.set j (b:=b) (cs:=#[v0,v1,v2,v3,x4]) (T:=T) (by rw[List.getElem?_set_self aA];rfl) 4 v4;rw[List.set_set] at h5;exact h5
theorem EI.put3(h:EI c0 w mp mb hv G lv c st ls nr vr ow W)(j:Nat){b:Nat}{x0 x1 x2:Value}{T:TypeId}(hj:ls[j]? = J (b,#[x0,x1,x2],T))(v0 v1 v2:Value):
  EI c0 w mp mb hv G lv c st (ls.set j (b,#[v0,v1,v2],T)) nr vr ow (((W.setCell ⟨b,0,I⟩ v0).setCell ⟨b,1,I⟩ v1).setCell ⟨b,2,I⟩ v2):=by
 have aA:=(lgS.1 hj).1;have h1:=h.set j hj 0 v0;have h2:=h1.set j (b:=b) (cs:=#[v0,x1,x2]) (T:=T) (by rw[List.getElem?_set_self aA];rfl) 1 v1;rw[List.set_set] at h2;have h3:=h2.set j (b:=b) (cs:=#[v0,v1,x2]) (T:=T) (by rw[List.getElem?_set_self aA];rfl) 2 v2;rw[List.set_set] at h3;exact h3
theorem EI.start3(h:EI c0 w mp mb hv G lv c st [] nr vr ow W){n v f:Array Value}{T T' T2:TypeId}:EI c0 w mp mb hv G lv c st [(W.heap.size,n,T),(W.heap.size+1,v,T'),(W.heap.size+1+1,f,T2)] nr vr ow (((W.alloc (.cells n T)).alloc (.cells v T')).alloc (.cells f T2)):=by
 have h3:=((h.alloc n T).alloc v T').alloc f T2
 simpa using h3
theorem EI.alloc2{cs cs':Array Value}{T T':TypeId}(h:EI c0 w mp mb hv G lv c st ls nr vr ow W):EI c0 w mp mb hv G lv c st (ls++[(W.heap.size,cs,T)]++[(W.heap.size+1,cs',T')]) nr vr ow ((W.alloc (.cells cs T)).alloc (.cells cs' T')):=by
 have h2:=(h.alloc cs T).alloc cs' T'
 rwa [show(W.alloc (.cells cs T)).heap.size=W.heap.size+1 by simp] at h2
theorem EI.alloc3{n v f:Array Value}{T T' T2:TypeId}(h:EI c0 w mp mb hv G lv c st ls nr vr ow W):EI c0 w mp mb hv G lv c st (ls++[(W.heap.size,n,T)]++[(W.heap.size+1,v,T')]++[(W.heap.size+1+1,f,T2)]) nr vr ow (((W.alloc (.cells n T)).alloc (.cells v T')).alloc (.cells f T2)):=by
 have h3:=((h.alloc n T).alloc v T').alloc f T2
 simpa using h3
theorem EI.start4(h:EI c0 w mp mb hv G lv c st [] nr vr ow W){n v f x:Array Value}{T T' T2 T3:TypeId}:EI c0 w mp mb hv G lv c st [(W.heap.size,n,T),(W.heap.size+1,v,T'),(W.heap.size+1+1,f,T2),(W.heap.size+1+1+1,x,T3)] nr vr ow ((((W.alloc (.cells n T)).alloc (.cells v T')).alloc (.cells f T2)).alloc (.cells x T3)):=by
 have h3:=h.start3 (n:=n) (v:=v) (f:=f) (T:=T) (T':=T') (T2:=T2);have h4:=h3.alloc x T3
 simpa using h4
theorem EI.grow(h:EI c0 w mp mb hv G lv c st ls nr vr ow W){ow':OwS}(h1:W'.os=W.os)(h2:W'.tape=W.tape)(h3:W'.output=W.output)(hs:W.heap.size<=W'.heap.size)(hk:∀b,b<W.heap.size->¬ow.O b->W'.heap[b]? = W.heap[b]?)(ha:ow'.At c.F W')(hO:∀b,ow'.O b->ow.O b\/W.heap.size<=b):EI c0 w mp mb hv G lv c st ls nr vr ow' W':=by
 have hm:∀b,b<W.heap.size->c.M b\/c.F b->W'.heap[b]? = W.heap[b]?:=fun b hb hx=>hk b hb fun ho=>hx.elim (h.oo b ho).1.1 (h.oo b ho).1.2;have hg:∀b,G b->W'.heap[b]? = W.heap[b]?:=fun b hb=>hk b (h.g b hb).1 fun ho=>(by have:=h.gw b hb;have:=(h.oo b ho).2.1;omega);refine⟨⟨h1.trans h.mv.os,h2.trans h.mv.tape,h3.trans h.mv.output,nlt h.mv.size hs,fun b hb hn=>(hk b (nll hb h.mv.size) fun ho=>by have:=(h.oo b ho).2.1;omega).trans (h.mv.block b hb hn),h.mv.m,h.mv.f⟩,h.ok.below hs,fun e=>(h.ms e).other hs hm,fun x hx=>(hk _ (h.lt hx) fun ho=>(h.oo _ ho).2.2 x hx rfl).trans (h.locs x hx),h.own,h.out,h.dist,fun b hb=>⟨nll (h.g b hb).1 hs,(h.g b hb).2⟩,h.gw,fun r hr=>(h.nr r hr).mono fun b hb hl=>⟨hb,nll hl hs,hg b hb⟩,fun r hr=>(h.vr r hr).mono fun b hb hl=>⟨hb,nll hl hs,hm b hl (.inr hb)⟩,ha,fun b hb=>?_,h.f0⟩;rcases hO b hb with h4|h4
 ·exact h.oo b h4
 ·exact⟨⟨fun hm=>by have:=h.ok.ml b hm;omega,fun hf=>by have:=h.ok.fl b hf;omega⟩,nlt h.mv.size h4,fun x hx e=>by have:=h.lt hx;omega⟩
theorem EI.done(h:EI c0 w mp mb hv G lv c st ls nr vr ow W):EI c0 w mp mb hv G lv (c.with ow.O) st ls nr vr .nil W:=
 have hg:∀b,ow.O b->b<W.heap.size/\¬c.M b:=fun b hb=>⟨ow.lt h.at' hb,(h.oo b hb).1.1⟩
 ⟨h.mv.with fun b hb=>(h.oo b hb).2.1,h.ok.with hg,fun e=>(h.ms e).with hg,h.locs,h.own,fun x hx=>⟨(h.out x hx).1,fun hm=>hm.elim (h.out x hx).2 fun ho=>(h.oo _ ho).2.2 x hx rfl⟩,h.dist,h.g,h.gw,h.nr,fun r hr=>(h.vr r hr).wider fun _b hb _=> .inl hb,trivial,fun _ h=>h.elim,fun b hb=> .inl (h.f0 b hb)⟩
theorem EI.subl(h:EI c0 w mp mb hv G lv c st ls nr vr ow W){ls':List (Nat×Array Value×TypeId)}{nr':List (Option Addr×List Nd)}{vr':List (List Dat×List Value)}(h1:ls'.Sublist ls)(h2:∀r∈nr',r∈nr)(h3:∀r∈vr',r∈vr):EI c0 w mp mb hv G lv c st ls' nr' vr' ow W:=by
 have hl:∀x∈ls',x∈ls:=fun x hx=>h1.subset hx;exact⟨h.mv,h.ok,h.ms,fun x hx=>h.locs x (hl x hx),fun x hx=>h.own x (hl x hx),fun x hx=>h.out x (hl x hx),h.dist.sublist (h1.map _),h.g,h.gw,fun r hr=>h.nr r (h2 r hr),fun r hr=>h.vr r (h3 r hr),h.at',fun b hb=>⟨(h.oo b hb).1,(h.oo b hb).2.1,fun x hx=>(h.oo b hb).2.2 x (hl x hx)⟩,h.f0⟩
theorem EI.sub(h:EI c0 w mp mb hv G lv c st ls nr vr ow W){ls':List (Nat×Array Value×TypeId)}{nr':List (Option Addr×List Nd)}{vr':List (List Dat×List Value)}(n:Nat)(h1:ls.take n=ls':=by rfl)(h2:∀r∈nr',r∈nr:=by simp)(h3:∀r∈vr',r∈vr:=by simp):EI c0 w mp mb hv G lv c st ls' nr' vr' ow W:=h.subl (h1▸List.take_sublist n ls) h2 h3
variable {α β:Type} {z:ER β} {Q:Ending->World->Prop} {f:FuncId} {args:Array Value}
theorem xB{X:Value}(H:EI c0 w mp mb hv G lv c st ls nr vr ow W)(Hc:Calls Tryz.prog f args W (fun e w'=>e = .returned X/\Below W.heap.size W w'))(k:∀W',Hid (EI c0 w mp mb hv G lv c st ls nr vr ow W')->Q (.returned X) W'):Calls Tryz.prog f args W Q:=
 Hc.mono fun e w' ⟨he,hb⟩=>by subst he;exact k w' (Lq7 (H.below hb))
theorem xKid(i:Nat){k0 l0 c1:Int}{t0:ByteArray}{kids:List Nd}{a:Option Addr}{cap:Nat}(hs:Cf (.mk k0 t0 l0 c1 kids))(hk:∀W' xk xt xl xc xs a' cap',kidN (.mk k0 t0 l0 c1 kids) i = .mk xk xt xl xc xs->Hid (Cf (.mk xk xt xl xc xs))->Hid (F5 xk=true->xs.length<=cap')->Hid (EI c0 w mp mb hv G lv c st ls ((a',xs)::nr) vr ow W')->Q (.returned (M #[C D xk,E xt,C D xl,C D xc,A a' xs.length cap'])) W')
  (hl:kids.length<=140737488355328) (H:EI c0 w mp mb hv G lv c st ls nr vr ow W:=by first|exact H.out|exact H.out.alloc _ _|exact H.out.alloc2|exact H.out.start3|exact(H.out.put3 4 rfl _ _ _).alloc _ _) (hi2:i<=2:=by omega) (hr:(a,kids)∈nr:=by simp):Calls Tryz.prog 75 #[M #[C D k0,E t0,C D l0,C D c1,A a kids.length cap],C D i] W Q:=by
 refine(kid_any G k0 t0 l0 c1 kids a cap i W (by omega) (by omega) hl (H.nr _ hr)).mono ?_;rintro e w' ⟨v,rfl,hn,hb⟩;have hs':=Xs hs i;rw[Int.toNat_natCast] at hn;cases hx:kidN (.mk k0 t0 l0 c1 kids) i with
 | mk xk xt xl xc xs=>
  rw[hx] at hn hs';obtain⟨a',cap',rfl,aG⟩:=hn.open;exact hk w' xk xt xl xc xs a' cap' hx (Lq7 hs') (Lq7 (A7.cap hn)) (Lq7 ((H.below hb).node aG))
structure XN(f mp mb:Nat)(hv:Dq)(ex:Nd->EM Vl):Prop where
 does:XDoes f mp mb hv ex
 nz:∀n st x y z,ex n st = .err x y z->x≠0
theorem xNode{ex:Nd->EM Vl}{k:Vl->EM β}{nk nl nc:Int}{nt:ByteArray}{ns:List Nd}{a:Option Addr}{cap:Nat}(hx:XN f mp mb hv ex)(Hn:Hid (z ≠ .out))(S:Hid (z=EM.bind (ex (.mk nk nt nl nc ns)) k st))
  (hok:∀c' W' yk yn ys yl yks b1 e1 b2 e2 st',Hid (EI c0 w mp mb hv G true c' st' ls nr ((valD (.mk yk yn ys yl yks),[C D yk,C D yn,E ys,A b1 yl.length e1,A b2 yks.length e2])::vr) ow W')->Hid (z=k (.mk yk yn ys yl yks) st')->Hid (Am (.mk yk yn ys yl yks)=true)->Q (.returned (.tuple #[M #[C D yk,C D yn,E ys,A b1 yl.length e1,A b2 yks.length e2],M #[C D 0,C D 0,C D 0]])) W')
  (herr:∀c' W' x y l,x≠0->Hid (EI c0 w mp mb hv G false c' st ls nr vr ow W')->Hid (z = .err x y l)->Q (.returned (.tuple #[M #[C D 0,C D 0,E ⟨#[]⟩,A I 0 0,A I 0 0],M #[C D x,C D y,C D l]])) W')
  (H:EI c0 w mp mb hv G true c st ls nr vr ow W:=by first|exact H.out|exact H.out.alloc _ _|exact H.out.alloc2|exact H.out.start3) (hs:Hid (Cf (.mk nk nt nl nc ns)):=by assumption) (hc:Hid (F5 nk=true->ns.length<=cap):=by assumption) (hr:(a,ns)∈nr:=by simp):Calls Tryz.prog f #[.pointer (J ⟨mp,0,I⟩),M #[C D nk,E nt,C D nl,C D nc,A a ns.length cap]] W Q:=by
 refine(hx.does G c W st (.mk nk nt nl nc ns) _ (H.ms rfl) H.g (A7.mk nk nt nl nc cap (H.nr _ hr) hc.out) hs.out (fun h=>Hn.out (S.out.trans (Eo h)))).mono ?_;rintro e w' ⟨c2,aC,hq⟩;cases hxx:ex (.mk nk nt nl nc ns) st with
 | out=>exact absurd (S.out.trans (Eo hxx)) Hn.out
 | err x y l=>
  rw[hxx] at hq;obtain rfl:=hq;have hm0:Mv c W ⟨c.M,c.F⟩ w':=⟨aC.os,aC.tape,aC.output,aC.size,aC.block,fun _ h=> .inl h,fun _ h=> .inl h⟩;exact herr _ w' x y l (hx.nz _ _ _ _ _ hxx) (Lq7 (H.dead.call hm0 (H.ok.below aC.size) (fun e=>by cases e))) (Lq7 (S.out.trans (ebind_err hxx)))
 | ok x st2=>
  rw[hxx] at hq;obtain⟨aH,v,rfl,cs,rfl,aJ,hck⟩:=hq;obtain⟨yk,yn,ys,yl,yks⟩:=x;obtain⟨b1,e1,b2,e2,rfl,-,-⟩:=aJ.val;exact hok _ w' yk yn ys yl yks b1 e1 b2 e2 st2 (Lq7 ((H.call aC aH.ok (fun _=>aH)).val (aJ.wider fun b hb _=> .inl hb))) (Lq7 (S.out.trans (Gx hxx))) (Lq7 hck)
theorem eretV{fn:Func}{i j bV bF:Nat}{T T':TypeId}{yk yn:Int}{ys:ByteArray}{yl:List Vl}{yks:List ByteArray}{b1 b2:Option Addr}{e1 e2 n1 n2:Nat}{z:ER Vl}{tm:Array Value}(S:Hid (z = .ok (.mk yk yn ys yl yks) st))(H:EI c0 w mp mb hv G true c st ls nr vr ow W)
  (hV:ls[1]? = J (bV,#[C D yk,C D yn,E ys,A b1 n1 e1,A b2 n2 e2],T):=by rfl) (hF:ls[2]? = J (bF,#[C D 0,C D 0,C D 0],T'):=by rfl) (ha:(valD (.mk yk yn ys yl yks),[C D yk,C D yn,E ys,A b1 n1 e1,A b2 n2 e2])∈vr:=by simp) (hc:Am (.mk yk yn ys yl yks)=true:=by refine Hid.out ?_;assumption)
  (hf:fn.results=#[.cell i 53,.cell j 75]:=by rfl) (ht:tm.getD i undef = .pointer (J ⟨bV,0,I⟩):=by rfl) (hu:tm.getD j undef = .pointer (J ⟨bF,0,I⟩):=by rfl):bodyPost Tryz.prog fn (EP mp mb hv EVal badV c0 z w) .ret ⟨tm,[]⟩ W:=by
 rw[Array.getD_eq_getD_getElem?] at ht hu;obtain⟨r0,r1,r2,r3,r4,r5,-⟩:=Aa (H.locs _ (lgM hV));obtain⟨q0,q1,q2,q3,-⟩:=Bh (H.locs _ (lgM hF));refine bodyPost_ret (v:=.tuple #[M #[C D yk,C D yn,E ys,A b1 n1 e1,A b2 n2 e2],M #[C D 0,C D 0,C D 0]]) (by simp[results,hf,go_sem,ht,hu,r1,r2,r3,r4,r5,q1,q2,q3]) rfl ?_;rw[S.out];exact⟨c,H.mv,H.ms rfl,_,rfl,_,rfl,H.vr _ ha,hc⟩
theorem eretF{fn:Func}{i j bV bF:Nat}{T T':TypeId}{x y l:Int}{z:ER Vl}{tm:Array Value}(S:Hid (z = .err x y l))(H:EI c0 w mp mb hv G lv c st ls nr vr ow W)
  (hV:ls[1]? = J (bV,#[C D 0,C D 0,E ⟨#[]⟩,A I 0 0,A I 0 0],T):=by rfl) (hF:ls[2]? = J (bF,#[C D x,C D y,C D l],T'):=by rfl)
  (hf:fn.results=#[.cell i 53,.cell j 75]:=by rfl) (ht:tm.getD i undef = .pointer (J ⟨bV,0,I⟩):=by rfl) (hu:tm.getD j undef = .pointer (J ⟨bF,0,I⟩):=by rfl):bodyPost Tryz.prog fn (EP mp mb hv EVal badV c0 z w) .ret ⟨tm,[]⟩ W:=by
 rw[Array.getD_eq_getD_getElem?] at ht hu;obtain⟨r0,r1,r2,r3,r4,r5,-⟩:=Aa (H.locs _ (lgM hV));obtain⟨q0,q1,q2,q3,-⟩:=Bh (H.locs _ (lgM hF));refine bodyPost_ret (v:=badV x y l) (by simp[badV,zeroV,Bk,results,hf,go_sem,ht,hu,r1,r2,r3,r4,r5,q1,q2,q3]) rfl ?_;rw[S.out];exact⟨c,H.mv,rfl⟩
end
section
variable {c0 c c':Ctx} {w W W':World} {mp mb:Nat} {hv:Dq} {G:Nat->Prop} {lv:Bool} {st st':St} {ls:List (Nat×Array Value×TypeId)} {nr:List (Option Addr×List Nd)} {vr:List (List Dat×List Value)} {ow:OwS} {β:Type} {z:ER β} {Q:Ending->World->Prop}
def NeB(b:Nat):List (Nat×Array Value×TypeId)->Prop
 | []=>True
 | (b',_,_)::l=>(b≠b'/\b'≠b)/\NeB b l
def PwA:List (Nat×Array Value×TypeId)->Prop
 | []=>True
 | (b,_,_)::l=>NeB b l/\PwA l
theorem neB_of{b:Nat}:∀ls:List (Nat×Array Value×TypeId),b∉ls.map (·.1)->NeB b ls
 | [],_=>trivial
 | (b',_,_)::l,h=>by
  rw[List.map_cons,List.mem_cons,not_or] at h;exact⟨⟨h.1,fun e=>h.1 e.symm⟩,neB_of l h.2⟩
theorem pwA_of:∀ls:List (Nat×Array Value×TypeId),(ls.map (·.1)).Nodup->PwA ls
 | [],_=>trivial
 | (b,_,_)::l,h=>by
  rw[List.map_cons,List.nodup_cons] at h;exact⟨neB_of l h.1,pwA_of l h.2⟩
def FaA(W:World):List (Nat×Array Value×TypeId)->Prop
 | []=>True
 | (b,cs,_)::l=>(b<W.heap.size/\(∀j,W.cell? ⟨b,j,I⟩=cs[j]?)/\∀j,W.frozen? ⟨b,j,I⟩=false)/\FaA W l
theorem Xp{W:World}:∀ls:List (Nat×Array Value×TypeId),C4 W ls->FaA W ls
 | [],_=>trivial
 | (_,_,_)::l,h=>⟨Ao h.1,Xp l h.2⟩
theorem EI.fa(h:EI c0 w mp mb hv G lv c st ls nr vr ow W):FaA W ls/\PwA ls:=⟨Xp _ h.la,pwA_of _ h.dist⟩
theorem Pv{F:Nat->Prop}{w:World}{k n:Int}{s:ByteArray}{l:List Vl}{ks:List ByteArray}{b1 b2:Option Addr}{e1 e2:Nat}(h:Ai F w (valD (.mk k n s l ks)) [C D k,C D n,E s,A b1 l.length e1,A b2 ks.length e2]):Ac F w b1 (Ar l)/\Ac F w b2 (Bn ks):=by
 obtain⟨a,c,a',c',he,h1,h2⟩:=h.val;simp only[List.cons.injEq,Value.slice.injEq] at he;obtain⟨-,-,-,⟨rfl,-,-⟩,⟨rfl,-,-⟩,-⟩:=he;exact⟨h1,h2⟩
theorem ifT{α:Type}{c:Prop}{_:Decidable c}(h:c){a b:EM α}{st:St}:(if c then a else b) st=a st:=by rw[if_pos h]
theorem ifF{α:Type}{c:Prop}{_:Decidable c}(h:¬c){a b:EM α}{st:St}:(if c then a else b) st=b st:=by rw[if_neg h]
theorem EI.fresh(h:EI c0 w mp mb hv G lv c st ls nr vr ow W)(hb:Below W.heap.size W W'){ds:List Dat}{cs:List Value}(ha:Ai (fun b=>c.F b\/W.heap.size<=b) W' ds cs):EI c0 w mp mb hv G lv (c.with fun b=>W.heap.size<=b/\b<W'.heap.size) st ls nr ((ds,cs)::vr) ow W':=by
 have h2:=h.below hb;have hw:∀b,(W.heap.size<=b/\b<W'.heap.size)->b<W'.heap.size/\¬c.M b:=fun b hb'=>⟨hb'.2,fun hm=>by have:=h.ok.ml b hm;omega⟩;have hw':∀{b},b<W.heap.size->¬(W.heap.size<=b/\b<W'.heap.size):=fun h h'=>Nat.not_lt.2 h'.1 h;refine⟨h2.mv.with fun b hb'=>nlt h.mv.size hb'.1,h2.ok.with hw,fun e=>(h2.ms e).with hw,h2.locs,h2.own,fun x hx=>⟨(h2.out x hx).1,fun hm=>by
  rcases hm with hm|hm
  ·exact(h2.out x hx).2 hm
  ·have:=h.lt hx;omega⟩,h2.dist,h2.g,h2.gw,h2.nr,fun r hr=>?_,ow.stab h2.at' (fun _ h=> .inl h) (nlr _) (fun _ _ _=>rfl),fun b hb=>⟨⟨(h2.oo b hb).1.1,fun hm=>hm.elim (h2.oo b hb).1.2 (hw' (ow.lt h.at' hb))⟩,(h2.oo b hb).2⟩,fun b hb=> .inl (h2.f0 b hb)⟩
 rcases List.mem_cons.1 hr with rfl|hr
 ·exact ha.wider fun b hb' hl=>hb'.imp id (fun h=>⟨h,hl⟩)
 ·exact(h2.vr r hr).wider fun b hb' _=> .inl hb'
theorem EI.w5(j:Nat)(h:EI c0 w mp mb hv G lv c st ls nr vr ow W){b:Nat}{x0 x1 x2 x3 x4 v0 v1 v2 v3 v4:Value}{T:TypeId}(hj:ls[j]? = J (b,#[x0,x1,x2,x3,x4],T):=by with_unfolding_all rfl):EI c0 w mp mb hv G lv c st (ls.set j (b,#[v0,v1,v2,v3,v4],T)) nr vr ow (((((W.setCell ⟨b,0,I⟩ v0).setCell ⟨b,1,I⟩ v1).setCell ⟨b,2,I⟩ v2).setCell ⟨b,3,I⟩ v3).setCell ⟨b,4,I⟩ v4):=h.put5 j hj v0 v1 v2 v3 v4
theorem EI.w3(j:Nat)(h:EI c0 w mp mb hv G lv c st ls nr vr ow W){b:Nat}{x0 x1 x2 v0 v1 v2:Value}{T:TypeId}(hj:ls[j]? = J (b,#[x0,x1,x2],T):=by with_unfolding_all rfl):EI c0 w mp mb hv G lv c st (ls.set j (b,#[v0,v1,v2],T)) nr vr ow (((W.setCell ⟨b,0,I⟩ v0).setCell ⟨b,1,I⟩ v1).setCell ⟨b,2,I⟩ v2):=h.put3 j hj v0 v1 v2
theorem EI.w2(n:Nat)(h:EI c0 w mp mb hv G lv c st ls nr vr ow W){b:Nat}{x0 x1 v0 v1:Value}{T:TypeId}(hj:ls[ls.length-n]? = J (b,#[x0,x1],T):=by with_unfolding_all rfl):EI c0 w mp mb hv G lv c st (ls.set (ls.length-n) (b,#[v0,v1],T)) nr vr ow ((W.setCell ⟨b,0,I⟩ v0).setCell ⟨b,1,I⟩ v1):=h.put2 _ hj v0 v1
theorem gH{P:Prop}(h:P:=by first|with_reducible exact H.out|with_reducible exact H.out.alloc _ _|with_reducible exact H.out.alloc2|with_reducible exact H.out.alloc3|with_reducible exact H.out.start3|with_reducible exact H.out.w5 1|with_reducible exact H.out.w5 4|with_reducible exact H.out.w3 1|with_reducible exact H.out.w3 2|with_reducible exact H.out.w3 0|with_reducible exact(H.out.w5 1).w3 2|with_reducible exact(H.out.w3 1).alloc _ _|with_reducible exact(H.out.w3 1).alloc2|with_reducible exact(H.out.w3 0).alloc _ _|with_reducible exact(H.out.w3 4).alloc _ _|with_reducible exact H.out.w53 3|with_reducible exact H.out.w2 1|with_reducible exact H.out.w2 2|with_reducible exact H.out.w41 3|with_reducible exact((H.out.alloc _ _).w5 1).w3 2|with_reducible exact((H.out.w5 1).w3 2).alloc _ _):P:=h
theorem xTruth{yk yn:Int}{ys:ByteArray}{yl:List Vl}{yks:List ByteArray}{b1 b2:Option Addr}{e1 e2:Nat}(k:∀W' b,Gs (.mk yk yn ys yl yks)=b->Hid (EI c0 w mp mb hv G true c st ls nr vr ow W')->Q (.returned (.bool b)) W')(H:EI c0 w mp mb hv G true c st ls nr vr ow W:=by exact gH)(ha:(valD (.mk yk yn ys yl yks),[C D yk,C D yn,E ys,A b1 yl.length e1,A b2 yks.length e2])∈vr:=by simp)(hc:Am (.mk yk yn ys yl yks)=true:=by refine Hid.out ?_;assumption):
  Calls Tryz.prog 78 #[M #[C D yk,C D yn,E ys,A b1 yl.length e1,A b2 yks.length e2]] W Q:=by
 obtain⟨h1,h2⟩:=Pv (H.vr _ ha);exact xB H (Zc yk yn ys yl yks (Bw hc) c.F b1 e1 b2 e2 W H.ok.fl h1 h2) fun W' h=>k W' _ rfl h
theorem xMadeT(k:∀W',Hid (Am (.mk 1 1 ⟨#[]⟩ [] [])=true)->Hid (EI c0 w mp mb hv G true c st ls nr ((valD (.mk 1 1 ⟨#[]⟩ [] []),[C D 1,C D 1,E ⟨#[]⟩,A I 0 0,A I 0 0])::vr) ow W')->Q (.returned (M #[C D 1,C D 1,E ⟨#[]⟩,A I 0 0,A I 0 0])) W')(H:EI c0 w mp mb hv G true c st ls nr vr ow W:=by exact gH):Calls Tryz.prog 161 #[.bool true] W Q:=
 xB H (Jt true W) fun W' h=>k W' (Lq7 (Ey true)) (Lq7 (h.out.val (Rq _ _ true)))
theorem xMadeF(k:∀W',Hid (Am (.mk 1 0 ⟨#[]⟩ [] [])=true)->Hid (EI c0 w mp mb hv G true c st ls nr ((valD (.mk 1 0 ⟨#[]⟩ [] []),[C D 1,C D 0,E ⟨#[]⟩,A I 0 0,A I 0 0])::vr) ow W')->Q (.returned (M #[C D 1,C D 0,E ⟨#[]⟩,A I 0 0,A I 0 0])) W')(H:EI c0 w mp mb hv G true c st ls nr vr ow W:=by exact gH):Calls Tryz.prog 161 #[.bool false] W Q:=
 xB H (Jt false W) fun W' h=>k W' (Lq7 (Ey false)) (Lq7 (h.out.val (Rq _ _ false)))
theorem xOp(hop:OpC){t:ByteArray}{l k:Int}{z:ER Vl}{yk yn:Int}{ys:ByteArray}{yl:List Vl}{yks:List ByteArray}{b1 b2:Option Addr}{e1 e2:Nat}{uk un:Int}{us:ByteArray}{ul:List Vl}{uks:List ByteArray}{b3 b4:Option Addr}{e3 e4:Nat}(S:Hid (z=eRes (opL t.data.toList (.mk yk yn ys yl yks) (.mk uk un us ul uks)) l k st))
  (hok:∀c' W' xk xn xs xl xks d1 d2 f1 f2,Hid (EI c0 w mp mb hv G true c' st ls nr ((valD (.mk xk xn xs xl xks),[C D xk,C D xn,E xs,A d1 xl.length f1,A d2 xks.length f2])::vr) ow W')->Hid (z = .ok (.mk xk xn xs xl xks) st)->Hid (Am (.mk xk xn xs xl xks)=true)->Q (.returned (.tuple #[M #[C D xk,C D xn,E xs,A d1 xl.length f1,A d2 xks.length f2],C D 0])) W')
  (herr:∀W' n,n≠0->Hid (EI c0 w mp mb hv G true c st ls nr vr ow W')->Hid (z = .err n l k)->Q (.returned (.tuple #[M #[C D 0,C D 0,E ⟨#[]⟩,A I 0 0,A I 0 0],C D n])) W')
  (H:EI c0 w mp mb hv G true c st ls nr vr ow W:=by exact gH) (ha:(valD (.mk yk yn ys yl yks),[C D yk,C D yn,E ys,A b1 yl.length e1,A b2 yks.length e2])∈vr:=by simp) (hc:Am (.mk yk yn ys yl yks)=true:=by refine Hid.out ?_;assumption) (hb:(valD (.mk uk un us ul uks),[C D uk,C D un,E us,A b3 ul.length e3,A b4 uks.length e4])∈vr:=by simp) (hd:Am (.mk uk un us ul uks)=true:=by refine Hid.out ?_;assumption):
  Calls Tryz.prog 163 #[E t,M #[C D yk,C D yn,E ys,A b1 yl.length e1,A b2 yks.length e2],M #[C D uk,C D un,E us,A b3 ul.length e3,A b4 uks.length e4]] W Q:=by
 obtain⟨h1,h2⟩:=Pv (H.vr _ ha);obtain⟨h3,h4⟩:=Pv (H.vr _ hb);refine(hop t c.F yk yn ys yl yks uk un us ul uks b1 e1 b2 e2 b3 e3 b4 e4 W hc hd H.ok.fl (H.ms rfl).std.2 h1 h2 h3 h4).mono ?_;rintro e w' ⟨aC,hq⟩;cases hr:opL t.data.toList (.mk yk yn ys yl yks) (.mk uk un us ul uks) with
 | error n=>
  rw[hr] at hq;obtain rfl:=hq;exact herr w' n (opL_nz hr) (Lq7 (H.below aC)) (Lq7 (by rw[S.out,hr];rfl))
 | ok v=>
  rw[hr] at hq;obtain⟨cs,rfl,aB⟩:=hq;obtain⟨xk,xn,xs,xl,xks⟩:=v;obtain⟨d1,f1,d2,f2,rfl,-,-⟩:=aB.val;exact hok _ w' xk xn xs xl xks d1 d2 f1 f2 (Lq7 (H.fresh aC aB)) (Lq7 (by rw[S.out,hr];rfl)) (Lq7 (Aai hr hc hd))
theorem xStep{k:Unit->EM β}{l c1:Int}(S:Hid (z=EM.bind (De l c1) k st))(hok:∀c' W',Hid (EI c0 w mp mb hv G true c' { st with left:=st.left - 1} ls nr vr ow W')->Hid (z=k () { st with left:=st.left - 1})->Q (.returned (M #[C D 0,C D 0,C D 0])) W')
  (herr:∀c' W',Hid (EI c0 w mp mb hv G false c' st ls nr vr ow W')->Hid (z = .err 12 l c1)->Q (.returned (M #[C D 12,C D l,C D c1])) W') (H:EI c0 w mp mb hv G true c st ls nr vr ow W:=by exact gH):Calls Tryz.prog 73 #[.pointer (J ⟨mp,0,I⟩),M #[C D l,C D c1]] W Q:=by
 refine(step_any c mp mb hv st l c1 W (H.ms rfl)).mono ?_;rintro e w' ⟨c2,aA,hq⟩;by_cases hle:st.left<=0
 ·have he:De l c1 st = .err 12 l c1:=if_pos hle;rw[he] at hq;obtain rfl:=hq;have hm0:Mv c W ⟨c.M,c.F⟩ w':=⟨aA.os,aA.tape,aA.output,aA.size,aA.block,fun _ h=> .inl h,fun _ h=> .inl h⟩;exact herr _ w' (Lq7 (H.dead.call (st':=st) hm0 (H.ok.below aA.size) (fun e=>by cases e))) (Lq7 (S.out.trans (ebind_err he)))
 ·have he:De l c1 st = .ok () { st with left:=st.left - 1}:=if_neg hle;rw[he] at hq;obtain⟨aD,v1,rfl,hv1⟩:=hq;obtain rfl:v1=Bk 0 0 0:=hv1;exact hok _ w' (Lq7 (H.call aA aD.ok (fun _=>aD))) (Lq7 (S.out.trans (Gx he)))
theorem xInt{t:ByteArray}{z:ER Vl}(S:Hid (z=match numOf t with|some x=> .ok (.mk 2 x ⟨#[]⟩ [] []) st|none=> .out))(Hn:Hid (z ≠ .out))(k:∀W' x,Hid (z = .ok (.mk 2 x ⟨#[]⟩ [] []) st)->Hid (Am (.mk 2 x ⟨#[]⟩ [] [])=true)->Hid (EI c0 w mp mb hv G true c st ls nr ((valD (.mk 2 x ⟨#[]⟩ [] []),[C D 2,C D x,E ⟨#[]⟩,A I 0 0,A I 0 0])::vr) ow W')->Q (.returned (.tuple #[C D x,.bool true])) W')(H:EI c0 w mp mb hv G true c st ls nr vr ow W:=by exact gH):Calls Tryz.prog 121 #[E t] W Q:=by
 cases hx:numOf t with
 | none=>exact absurd (S.out.trans (by rw[hx])) Hn.out
 | some x=>exact xB H (U5 t x hx W (H.ms rfl).std.1) fun W' h=>k W' x (Lq7 (by rw[S.out,hx])) (Lq7 (P0 x (numOf_in hx))) (Lq7 (h.out.val (Ai.val_mk (l:=[]) (ks:=[]) _ _ _ _ _ (Ac.nil _) (Ac.nil _))))
theorem xStr{t:ByteArray}(k:∀W',Hid (EI c0 w mp mb hv G lv c st ls nr ((valD (.mk 3 0 t [] []),[C D 3,C D 0,E t,A I 0 0,A I 0 0])::vr) ow W')->Q (.returned (M #[C D 3,C D 0,E t,A I 0 0,A I 0 0])) W')(H:EI c0 w mp mb hv G lv c st ls nr vr ow W:=by exact gH):Calls Tryz.prog 123 #[E t] W Q:=
 xB H (str_any t W) fun W' h=>k W' (Lq7 (h.out.val (Ai.val_mk (l:=[]) (ks:=[]) _ _ _ _ _ (Ac.nil _) (Ac.nil _))))
theorem xMade{l c1:Int}{z:ER Vl}{yk yn:Int}{ys:ByteArray}{yl:List Vl}{yks:List ByteArray}{b1 b2:Option Addr}{e1 e2 n1 n2:Nat}(S:Hid (z=D8 (.mk yk yn ys yl yks) l c1 st))(hs:Hid (Ay (.mk yk yn ys yl yks)))
  (hok:∀W',Hid (EI c0 w mp mb hv G true c st ls nr vr ow W')->Hid (z = .ok (.mk yk yn ys yl yks) st)->Hid (Am (.mk yk yn ys yl yks)=true)->Q (.returned (.tuple #[M #[C D yk,C D yn,E ys,A b1 n1 e1,A b2 n2 e2],M #[C D 0,C D 0,C D 0]])) W')
  (herr:∀W',Hid (EI c0 w mp mb hv G true c st ls nr vr ow W')->Hid (z = .err 6 l c1)->Q (.returned (.tuple #[M #[C D 0,C D 0,E ⟨#[]⟩,A I 0 0,A I 0 0],M #[C D 6,C D l,C D c1]])) W') (H:EI c0 w mp mb hv G true c st ls nr vr ow W:=by exact gH) (ha:(valD (.mk yk yn ys yl yks),[C D yk,C D yn,E ys,A b1 n1 e1,A b2 n2 e2])∈vr:=by simp):
  Calls Tryz.prog 122 #[M #[C D yk,C D yn,E ys,A b1 n1 e1,A b2 n2 e2],M #[C D l,C D c1]] W Q:=by
 refine(U3 (.mk yk yn ys yl yks) hs.out c.F _ l c1 W H.ok.fl (H.vr _ ha)).mono ?_;rintro e w4 ⟨aE,rfl⟩;by_cases hck:Am (.mk yk yn ys yl yks)=true
 ·rw[if_pos hck];exact hok w4 (Lq7 (H.below aE)) (Lq7 (by rw[S.out];unfold D8;rw[if_pos hck];rfl)) (Lq7 hck)
 ·rw[if_neg hck];exact herr w4 (Lq7 (H.below aE)) (Lq7 (by rw[S.out];unfold D8;rw[if_neg hck];rfl))
theorem xFixed{t:ByteArray}{z g:ER Vl}(S:Hid (z=match fixedV t with|some v=> .ok v st|none=>g))
  (hok:∀W' xk xn xs xl xks d1 d2 f1 f2,Hid (EI c0 w mp mb hv G true c st ls nr ((valD (.mk xk xn xs xl xks),[C D xk,C D xn,E xs,A d1 xl.length f1,A d2 xks.length f2])::vr) ow W')->Hid (z = .ok (.mk xk xn xs xl xks) st)->Hid (Am (.mk xk xn xs xl xks)=true)->Q (.returned (.tuple #[M #[C D xk,C D xn,E xs,A d1 xl.length f1,A d2 xks.length f2],.bool true])) W')
  (hno:∀W' x0 x1 x2,Hid (EI c0 w mp mb hv G true c st ls nr vr ow W')->Hid (z=g)->Q (.returned (.tuple #[M #[C D x0,C D x1,E x2,A I 0 0,A I 0 0],.bool false])) W') (H:EI c0 w mp mb hv G true c st ls nr vr ow W:=by exact gH):Calls Tryz.prog 120 #[E t] W Q:=by
 refine(Ns t W).mono ?_;rintro e w2 ⟨cs,rfl,aF,aB,-,x0,x1,x2,rfl⟩;cases hx:fixedV t with
 | none=>exact hno w2 x0 x1 x2 (Lq7 (H.below aF)) (Lq7 (by rw[S.out,hx]))
 | some v=>
  have ha:=aB v hx c.F;obtain⟨xk,xn,xs,xl,xks⟩:=v;obtain⟨d1,f1,d2,f2,he,-,-⟩:=ha.val;rw[he] at ha |-;exact hok w2 xk xn xs xl xks d1 d2 f1 f2 (Lq7 ((H.below aF).val ha)) (Lq7 (by rw[S.out,hx])) (Lq7 (U6 hx))
theorem Js{α:Type}(m:EM α)(st:St):EM.bind m EM.pure st=m st:=by unfold EM.bind;cases m st<;>rfl
def cutR:List (Nat×Array Value×TypeId)->List (Nat×Array Value×TypeId)
 | a::l=>a::l.drop 2
 | []=>[]
theorem Nr{W:World}:∀{ls:List (Nat×Array Value×TypeId)} (n:Nat),C4 W ls->C4 W (ls.drop n)
 | _,0,h=>h
 | [],_+1,_=>trivial
 | (_,_,_)::_,n+1,h=>Nr n h.2
theorem U2{W:World}:∀{ls:List (Nat×Array Value×TypeId)},C4 W ls->C4 W (cutR ls)
 | [],h=>h
 | (_,_,_)::_,h=>⟨h.1,Nr 2 h.2⟩
theorem Zl{x:Nat×Array Value×TypeId}(j:Nat)(hj:j=1\/j=2):∀ls:List (Nat×Array Value×TypeId),cutR (ls.set j x)=cutR ls
 | []=>rfl
 | [_]=>by rcases hj with rfl|rfl<;>rfl
 | [_,_]=>by rcases hj with rfl|rfl<;>rfl
 | _::_::_::_=>by rcases hj with rfl|rfl<;>rfl
theorem EI.cut5(h:EI c0 w mp mb hv G lv c st ls nr vr ow W){b:Nat}{x0 x1 x2 x3 x4 v0 v1 v2 v3 v4:Value}{T:TypeId}{l0:List (Nat×Array Value×TypeId)}(hj:ls[1]? = J (b,#[x0,x1,x2,x3,x4],T):=by with_unfolding_all rfl)(hc:cutR ls=l0:=by with_unfolding_all rfl):C4 (((((W.setCell ⟨b,0,I⟩ v0).setCell ⟨b,1,I⟩ v1).setCell ⟨b,2,I⟩ v2).setCell ⟨b,3,I⟩ v3).setCell ⟨b,4,I⟩ v4) l0:=by
 rw[<-hc,<-Zl 1 (.inl rfl) ls];exact U2 (h.put5 1 hj v0 v1 v2 v3 v4).la
theorem EI.cut3(h:EI c0 w mp mb hv G lv c st ls nr vr ow W){b:Nat}{x0 x1 x2 v0 v1 v2:Value}{T:TypeId}{l0:List (Nat×Array Value×TypeId)}(hj:ls[2]? = J (b,#[x0,x1,x2],T):=by with_unfolding_all rfl)(hc:cutR ls=l0:=by with_unfolding_all rfl):C4 (((W.setCell ⟨b,0,I⟩ v0).setCell ⟨b,1,I⟩ v1).setCell ⟨b,2,I⟩ v2) l0:=by
 rw[<-hc,<-Zl 2 (.inr rfl) ls];exact U2 (h.put3 2 hj v0 v1 v2).la
theorem xRgn{ops:Array Oper}{Q:Exit->Act->World->Prop}{id:Nat}{a:Act}(l:Tu)(fin:Nat)(k:∀W',Hid (EI c0 w mp mb hv G lv c st ls nr vr ow W')->Ak Tryz.prog ops (fun W'=>C4 W' (cutR ls)) Q fin l a W')(H:EI c0 w mp mb hv G lv c st ls nr vr ow W:=by exact gH)(hm:(Tryz.prog).follows .mixedOrders=true:=by kernel_rfl)
  (hB:(Region.noSelect ops&&Cu .any ops fin l (Array.replicate ops.size false)&&decide (l.deep<=ops.size))=true:=by decide +kernel)
  (hQ:∀c a d v w,Q (.panic c) (a.put d v) w->Q (.panic c) a w:=by intro c a d v w h;cases d<;>exact h):(Code.region id ops true).wp Tryz.prog Q a W:=
 Bm l fin _ (U2 H.drew.la) (k _ (Lq7 H.drew)) hm hB hQ
theorem xH{ops:Array Oper}{Q:Exit->Act->World->Prop}{fin i:Nat}{o:Oper}{rest:Tu}{a:Act}{l0:List (Nat×Array Value×TypeId)}(k:∀W',Hid (EI c0 w mp mb hv G lv c st ls nr vr ow W')->∀K:Act->World->Prop,(∀a2 w2,(i≠fin->C4 w2 l0)->Ak Tryz.prog ops (fun W'=>C4 W' l0) Q fin rest a2 w2->K a2 w2)->wpList Tryz.prog ops (Exit.then K Q) [o] a W')
  (H:EI c0 w mp mb hv G lv c st ls nr vr ow W:=by exact gH) (ho:ops[i]? = J o:=by rfl):Ak Tryz.prog ops (fun W'=>C4 W' l0) Q fin (.h i rest) a W:=Ae ho (k W (Lq7 H))
end
theorem xdrv{P:Prop}(h:P:=by
 repeat' first
  | ((with_reducible refine goO ?_);((try simp only[List.cons_append,List.nil_append,List.set_cons_zero,List.set_cons_succ] at H);(have hD:=H.out.fa);(simp only[FaA,PwA,NeB,and_true] at hD);go_wp2_with (at_builtin;(first|refine xAppV Hj.out ?_|refine xAppN Hj.out ?_);intro V aL cL H;refine goM ?_);all_goals (try clear hD)))
  | ((with_reducible show Calls _ 75 _ _ _);(first|((with_reducible show Calls _ _ #[_,.int _ 0] _ _);refine xKid 0 Hs.out ?_ HL.out)|((with_reducible show Calls _ _ #[_,.int _ 1] _ _);refine xKid 1 Hs.out ?_ HL.out)|refine xKid 2 Hs.out ?_ HL.out);intro V xk xt xl xc xs a p hx hs hc H;rw[hx] at S;(refine goM ?_))
  | ((with_reducible show Calls _ 74 _ _ _);(first|refine xNode Hx.out Hn S (fun c V yk yn ys yl yks b1 e1 b2 e2 st H S hk=>?_) (fun c V x y l hq H S=>?_)|refine xNode Hx.out Hn (Go.Lib.hid (S.out.trans (Va _ _ _ _))) (fun c V yk yn ys yl yks b1 e1 b2 e2 st H S hk=>?_) (fun c V x y l hq H S=>?_))<;>(try dsimp only at S)<;>(try first|rw[ifT hP] at S|rw[ifF hP] at S)<;>(try have hq':(x==0)=false:=by simpa using hq)<;>(refine goM ?_))
  | ((with_reducible show Calls _ 78 _ _ _);refine xTruth ?_;intro V b h H;cases b<;>(try simp only[h,truthL,Bool.not_true,Bool.not_false,Bool.false_eq_true,if_true,if_false] at S)<;>(try first|rw[ifT h] at S|rw[ifF (by rw[h];exact Bool.false_ne_true)] at S)<;>(refine goM ?_))
  | ((with_reducible show Calls _ 161 _ _ _);(first|((with_reducible show Calls _ _ #[.bool true] _ _);refine xMadeT ?_)|refine xMadeF ?_);intro V hk H;(refine goM ?_))
  | ((with_reducible show Calls _ 163 _ _ _);refine xOp Hop.out S (fun c V xk xn xs xl xks d1 d2 f1 f2 H S hk=>?_) (fun V x hq H S=>?_)<;>(try have hq':(x==0)=false:=by simpa using hq)<;>(refine goM ?_))
  | ((with_reducible show Calls _ 73 _ _ _);refine xStep S (fun c V H S=>?_) (fun c V H S=>?_)<;>(refine goM ?_))
  | ((with_reducible show Calls _ 121 _ _ _);refine xInt S Hn (fun V x S hk H=>?_);(refine goM ?_))
  | ((with_reducible show Calls _ 120 _ _ _);refine xFixed S (fun V xk xn xs xl xks d1 d2 f1 f2 H S hk=>?_) (fun V x0 x1 x2 H S=>?_)<;>(refine goM ?_))
  | ((with_reducible show Calls _ 123 _ _ _);refine xStr ?_;intro V H;(refine goM ?_))
  | ((with_reducible show Calls _ 122 _ _ _);refine xMade S Hv (fun V H S hk=>?_) (fun V H S=>?_)<;>(refine goM ?_))
  | ((first|(with_reducible show Calls _ 124 _ _ _)|(with_reducible show Calls _ 127 _ _ _)|(with_reducible show Calls _ 126 _ _ _)|(with_reducible show Calls _ 125 _ _ _));refine xNode Hy.out Hn (Go.Lib.hid (S.out.trans (Js _ _).symm)) (fun c V yk yn ys yl yks b1 e1 b2 e2 st H S hk=>?_) (fun c V x y l hq H S=>?_)<;>(refine goM ?_))
  | ((with_reducible show Calls _ 128 _ _ _);refine xCheck Hv.out ?_;intro V b h H;cases b<;>simp only[h,Bool.false_eq_true,if_true,if_false] at S<;>have hk:=Go.Lib.hid h<;>(refine goM ?_))
  | ((with_reducible show Calls _ 35 _ _ _);refine xStm Hb.out Hn S (fun c V st H S=>?_) (fun c V x y l hq H S=>?_)<;>(try dsimp only at S)<;>(try have hq':(x==0)=false:=by simpa using hq)<;>(refine goM ?_))
  | ((with_reducible show Calls _ 77 _ _ _);(first|refine xStm He.out Hn S (fun c V st H S=>?_) (fun c V x y l hq H S=>?_)|refine xStm He.out Hn (Go.Lib.hid (S.out.trans (Js _ _).symm)) (fun c V st H S=>?_) (fun c V x y l hq H S=>?_))<;>(try dsimp only at S)<;>(try have hq':(x==0)=false:=by simpa using hq)<;>(refine goM ?_))
  | ((with_reducible show Calls _ 76 _ _ _);(first|refine xPut Ht.out Hn S (fun c V st H S=>?_) (fun c V x y l hq H S=>?_)|refine xPut Ht.out Hn (Go.Lib.hid (S.out.trans (Js _ _).symm)) (fun c V st H S=>?_) (fun c V x y l hq H S=>?_))<;>(try dsimp only at S)<;>(try have hq':(x==0)=false:=by simpa using hq)<;>(refine goM ?_))
  | ((with_reducible show Calls _ 20 _ _ _);(first|refine xBlk Hb.out Hn S (fun c V st H S=>?_) (fun c V x y l hq H S=>?_)|refine xBlk Hb.out Hn (Go.Lib.hid (S.out.trans (Js _ _).symm)) (fun c V st H S=>?_) (fun c V x y l hq H S=>?_))<;>(try dsimp only at S)<;>(try have hq':(x==0)=false:=by simpa using hq)<;>(refine goM ?_))
  | ((with_reducible show Code.wp _ (.region _ _ _) _ _ _);(first|refine xRgn (.s 0 (.s 1 (.h 2 (.h 3 .nil)))) 99 ?_|refine xRgn (.s 0 (.s 1 (.s 2 (.h 3 (.h 4 .nil))))) 99 ?_|refine xRgn (.s 0 (.s 1 (.s 2 (.s 3 (.h 4 (.h 5 .nil)))))) 99 ?_|refine xRgn (.s 0 (.s 1 (.s 2 (.s 3 (.s 4 (.h 5 (.h 6 .nil))))))) 99 ?_|refine xRgn (.s 0 (.s 1 (.s 3 (.s 4 (.h 2 (.h 5 (.s 6 (.s 7 (.h 8 (.h 9 .nil)))))))))) 99 ?_);intro V H)
  | ((with_reducible show Ak _ _ _ _ _ (.s _ _) _ _);refine tS ?_)
  | ((with_reducible show Ak _ _ _ _ _ (.h _ _) _ _);refine xH ?_;intro V H K hK;(refine goM ?_))
  | ((with_reducible show Ak _ _ _ _ _ .nil _ _);refine A2 ?_;(refine goM ?_))
  | ((with_reducible show bodyPost _ _ _ _ _ _);first|exact eretF S gH|exact eretV S gH|exact eretE 1 S gH|exact eretU 1 S gH|exact eretE 0 S gH|exact eretU 0 S gH)
  | (go_roundw;(case rel=>first|exact⟨j+1,_,_,_,_,_,by go_num,by omega,Go.Lib.hid (by rw[Xx];exact EI.sub gH 4),S,chk_snoc HC.out hk.out⟩|exact⟨j+1,_,_,_,_,_,by go_num,by omega,Go.Lib.hid (by rw[Th];exact EI.sub gH 4),S,Aak HC.out hk.out⟩|exact⟨j+1,_,_,by go_num,by omega,Go.Lib.hid (EI.sub gH 1),S⟩|exact⟨j+1,_,_,by go_num,by omega,Go.Lib.hid (EI.sub gH 2),Go.Lib.hid (by rw[hx];exact S.out)⟩);(case measure=>simp only[intOf];omega))
  | (refine hK _ _ (by first|with_reducible exact fun _=>H.out.cut5|with_reducible exact fun _=>H.out.cut3|with_reducible exact fun _=>H.out.la2 (j:=3) (by with_unfolding_all rfl)|with_reducible exact fun _=>(H.out.alloc _ _).la2 (j:=3) (by with_unfolding_all rfl)|with_reducible exact fun _=>(H.out.w5 4).la2 (j:=3) (by with_unfolding_all rfl)|exact fun _=>U2 H.out.la) ?_)):P:=h
theorem op_d{mp mb:Nat}{hv}{ex:Nd->EM Vl}(hop:OpC)(hnz:∀n st x y z,ex n st = .err x y z->x≠0)(hx:XDoes 74 mp mb hv ex):XDoes 127 mp mb hv (eOp ex):=by
 intro G c w st n v hm hG hn aA aB;obtain⟨kk,t,l,k,kids⟩:=n;obtain⟨a,cap,rfl,hr⟩:=hn.open;obtain⟨z,hz⟩:∃z,z=eOp ex (.mk kk t l k kids) st:=⟨_,rfl⟩;rw[<-hz] at aB |-;have Hz:=Lq7 hz;have Hn:=Lq7 aB;have Hop:=Lq7 hop;have Hx:=Lq7 (XN.mk hx hnz);have Hs:=Lq7 aA;have Hc:=Lq7 (A7.cap hn);have HL:Hid (kids.length<=140737488355328):=Lq7 (by rw[Cf] at aA;omega);have H:=Lq7 (EI.start hm hG hr);clear hz aB hop hx hnz aA hn hm hG hr;unfold ptr;go_enter Tryz.func127,Tryz.ntmps127;by_cases hP:t.data.toList=[110,111,116]
 ·have h':(t.toList==[110,111,116])=true:=(by rw[Lq8,hP];rfl);have S:Hid (z=EM.bind (ex (kidN (.mk kk t l k kids) 0)) (fun a=>EM.pure (truthL (!Gs a))) st):=Lq7 (Hz.out.trans (congrFun (congrArg _ (funext fun a=>if_pos hP)) st));clear Hz;go_wp2_with fail;exact xdrv
 ·have h':(t.toList==[110,111,116])=false:=(by rw[Lq8,beq_eq_false_iff_ne];exact hP);have S:Hid (z=EM.bind (ex (kidN (.mk kk t l k kids) 0)) (fun a=>EM.bind (ex (kidN (.mk kk t l k kids) 1)) fun b=>eRes (opL t.data.toList a b) l k) st):=Lq7 (Hz.out.trans (congrFun (congrArg _ (funext fun a=>if_neg hP)) st));clear Hz;go_wp2_with fail;exact xdrv
def Gk(base:Nat)(e:TypeId)(size:Nat)(a:Option Addr)(n cap:Nat)(rows:List (List Dat)):OwS where
 O b:=(Value.slice a n cap).ownBlock=J b
 At F W:=OwnD F W base e size (A a n cap) rows/\base<=W.heap.size/\n=rows.length
 stab h hF hs hk:=⟨(h.1.keep (fun b hl hb=>hk b hb.symm hl) hs).wide hF,nlt h.2.1 hs,h.2.2⟩
 lt h hb:=(h.1.block_lt hb).2
def Elt(e tl:TypeId)(size bytes:Nat):Prop:=(Tryz.prog).underlying tl=J (.slice e)/\∃i z,(Tryz.prog).info? e=J i/\i.zero=J z/\i.size=size/\i.bytes=bytes/\z.cells.size=size/\0<size/\bytes<=1000
theorem eltVal:Elt 53 50 5 80:=by
 obtain⟨i0,hi,aC,aA,aB⟩:=info_parts infoVal;exact⟨Tryz.underlying50,i0,_,hi,aC,aA,aB,rfl,by decide,by decide⟩
theorem infoNamedE:(Tryz.prog.info? 55).map (fun i=>(i.zero,i.size,i.bytes))=J (J (M #[E ByteArray.empty,C D 0,C D 0,E ByteArray.empty,A I 0 0,A I 0 0]),6,96):=by kernel_rfl
theorem eltNamed:Elt 55 31 6 96:=by
 obtain⟨i0,hi,aC,aA,aB⟩:=info_parts infoNamedE;exact⟨Tryz.underlying31,i0,_,hi,aC,aA,aB,rfl,by decide,by decide⟩
theorem Xx(l x):Ar (l++[x])=Ar l++[valD x]:=by rw[Fi];rfl
theorem Th(l x):Bx (l++[x])=Bx l++[Iq x]:=by rw[Ks];rfl
theorem Va{α β γ}(m:EM α)(f:α->EM β)(g:β->EM γ)(st):EM.bind (EM.bind m f) g st=EM.bind m (fun x=>EM.bind (f x) g) st:=by unfold EM.bind;cases m st<;>rfl
section
variable {c0 c c':Ctx} {w W W':World} {mp mb:Nat} {hv:Dq} {G:Nat->Prop} {lv:Bool} {st st':St} {ls:List (Nat×Array Value×TypeId)} {nr:List (Option Addr×List Nd)} {vr:List (List Dat×List Value)} {ow:OwS} {β:Type} {z:ER β} {base size:Nat} {e tl:TypeId} {aL:Option Addr} {n cL:Nat} {rows:List (List Dat)}
theorem EI.row0(h:EI c0 w mp mb hv G lv c st ls nr vr .nil W)(e:TypeId)(size:Nat):EI c0 w mp mb hv G lv c st ls nr vr (Gk W.heap.size e size I 0 0 []) W:=
 h.grow rfl rfl rfl (nlr _) (fun _ _ _=>rfl) ⟨OwnD.nil _ _ _ _ _,nlr _,rfl⟩ fun _ h=>by cases h
theorem EI.rowDone(h:EI c0 w mp mb hv G lv c st ls nr vr (Gk base e size aL n cL rows) W):∃c',EI c0 w mp mb hv G lv c' st ls nr vr .nil W/\Ac c'.F W aL rows/\n=rows.length:=by
 obtain⟨a,cap,hL,hr⟩:=(h.at'.1.wide (G:=(c.with (Gk base e size aL n cL rows).O).F) (fun b hb=> .inl hb)).rowAt (fun g hg=> .inr hg);obtain⟨rfl,-,-⟩:aL=a/\n=_/\cL=cap:=(by simpa using hL);exact⟨_,h.done,hr,h.at'.2.2⟩
theorem xApp0{ops:Array Oper}{rest:List Oper}{o:Oper}{a:Act}{Q:Exit->Act->World->Prop}{s x:Operand}{bytes b:Nat}{cp:Nat}{ds:List Dat}{cs:List Value}{T:TypeId}(he:Elt e tl size bytes)(hd:Ai c.F W ds cs)
  (k:∀W' a' c',Hid (EI c0 w mp mb hv G lv c st ls nr vr (Gk base e size a' (n+1) c' (rows++[ds])) W')->wpList Tryz.prog ops Q rest (a.put o.dst (A a' (n+1) c')) W')
  (H:EI c0 w mp mb hv G lv c st ls nr vr (Gk base e size aL n cL rows) W) (hgd:o.guard=I) (ho:o.op = .call { callee:=.builtin .append,args:=#[s,x],argTypes:=#[tl,tl]}) (hs:a.eval s = A aL n cL) (hx:a.eval x = A (J ⟨b,0,I⟩) 1 cp)
  (hb:(b,cs.toArray,T)∈ls) (hl:cs.length=size) (h1:∀u∈cs,u.oneCell'=true) (hn:n<=1000000):wpList Tryz.prog ops Q (o::rest) a W:=by
 obtain⟨hu,i,zv,hi,hz,aA,aB,hz3,hz4,hz5⟩:=he;have hh:=H.at';refine Df hgd s x tl ho base e i zv size bytes hu hi hz aA aB hz3 hz4 (A aL n cL) c.F rows hs hh.1 ⟨b,0,I⟩ cp ds cs hx hl (fun j u hj=>?_) h1 (hd.wider fun g hg _=>⟨hg,fun e=>(H.oo g e).1.2 hg⟩) (by have:=hh.2.2;unfold maxLen;omega) ?_ hh.2.1 fun v' w' h2 h3 h4=>?_
 ·obtain⟨-,h2,-⟩:=Ao (H.locs _ hb);rw[show(⟨b,0,I⟩:Addr).add j=⟨b,j,I⟩ by simp only[Addr.add,Nat.zero_add];split<;>simp_all,h2 j]
  simpa using hj
 ·have:=hh.2.2;have h2:(rows.length+1)*bytes<=1000001*1000:=Nat.mul_le_mul (by omega) hz5;omega
 ·obtain⟨a',cap,hv',-⟩:=(h2.wide (G:=fun _=>True) (fun _ _=>trivial)).rowAt (fun _ _=>trivial);have hlen:(rows++[ds]).length=n+1:=(by simp[hh.2.2]);rw[hlen] at hv';subst hv';exact k w' a' cap (Lq7 (H.grow h3.os h3.tape h3.output h3.size (fun g hg hn=>h3.block g hg fun e=>hn e.symm) ⟨h2,nlt hh.2.1 h3.size,hlen.symm⟩ h4))
theorem xAppV{ops:Array Oper}{rest:List Oper}{o:Oper}{a:Act}{Q:Exit->Act->World->Prop}{s x:Operand}{b:Nat}{cp:Nat}{yk yn:Int}{ys:ByteArray}{yl:List Vl}{yks:List ByteArray}{b1 b2:Option Addr}{e1 e2:Nat}{T:TypeId}(hn:n<=1000000)
  (k:∀W' a' c',Hid (EI c0 w mp mb hv G lv c st ls nr vr (Gk base 53 5 a' (n+1) c' (rows++[valD (.mk yk yn ys yl yks)])) W')->wpList Tryz.prog ops Q rest (a.put o.dst (A a' (n+1) c')) W')
  (H:EI c0 w mp mb hv G lv c st ls nr vr (Gk base 53 5 aL n cL rows) W:=by exact gH) (hd:(valD (.mk yk yn ys yl yks),[C D yk,C D yn,E ys,A b1 yl.length e1,A b2 yks.length e2])∈vr:=by exact List.mem_cons_self ..) (hgd:o.guard=I:=by rfl) (ho:o.op = .call { callee:=.builtin .append,args:=#[s,x],argTypes:=#[50,50]}:=by rfl) (hs:a.eval s = A aL n cL:=by rfl) (hx:a.eval x = A (J ⟨b,0,I⟩) 1 cp:=by rfl)
  (hb:ls.getLast? = J (b,#[C D yk,C D yn,E ys,A b1 yl.length e1,A b2 yks.length e2],T):=by with_unfolding_all rfl):wpList Tryz.prog ops Q (o::rest) a W:=
 xApp0 eltVal (H.vr _ hd) k H hgd ho hs hx (List.mem_of_getLast? hb) rfl (by simp[Value.oneCell']) hn
theorem xAppN{ops:Array Oper}{rest:List Oper}{o:Oper}{a:Act}{Q:Exit->Act->World->Prop}{s x:Operand}{b:Nat}{cp:Nat}{xt:ByteArray}{yk yn:Int}{ys:ByteArray}{yl:List Vl}{yks:List ByteArray}{b1 b2:Option Addr}{e1 e2:Nat}{T:TypeId}(hn:n<=1000000)
  (k:∀W' a' c',Hid (EI c0 w mp mb hv G lv c st ls nr vr (Gk base 55 6 a' (n+1) c' (rows++[Iq (xt,.mk yk yn ys yl yks)])) W')->wpList Tryz.prog ops Q rest (a.put o.dst (A a' (n+1) c')) W')
  (H:EI c0 w mp mb hv G lv c st ls nr vr (Gk base 55 6 aL n cL rows) W:=by exact gH) (hd:(valD (.mk yk yn ys yl yks),[C D yk,C D yn,E ys,A b1 yl.length e1,A b2 yks.length e2])∈vr:=by exact List.mem_cons_self ..) (hgd:o.guard=I:=by rfl) (ho:o.op = .call { callee:=.builtin .append,args:=#[s,x],argTypes:=#[31,31]}:=by rfl) (hs:a.eval s = A aL n cL:=by rfl) (hx:a.eval x = A (J ⟨b,0,I⟩) 1 cp:=by rfl)
  (hb:ls.getLast? = J (b,#[E xt,C D yk,C D yn,E ys,A b1 yl.length e1,A b2 yks.length e2],T):=by with_unfolding_all rfl):wpList Tryz.prog ops Q (o::rest) a W:=by
 obtain⟨h1,h2⟩:=Pv (H.vr _ hd);exact xApp0 eltNamed (Ai.named_mk xt yk yn ys e1 e2 h1 h2) k H hgd ho hs hx (List.mem_of_getLast? hb) rfl (by simp[Value.oneCell']) hn
theorem xCheck{Q:Ending->World->Prop}{yk yn:Int}{ys:ByteArray}{yl:List Vl}{yks:List ByteArray}{b1 b2:Option Addr}{e1 e2:Nat}(hs:Ay (.mk yk yn ys yl yks))(k:∀W' b,Am (.mk yk yn ys yl yks)=b->Hid (EI c0 w mp mb hv G lv c st ls nr vr ow W')->Q (.returned (.bool b)) W')(H:EI c0 w mp mb hv G lv c st ls nr vr ow W:=by exact gH)(ha:(valD (.mk yk yn ys yl yks),[C D yk,C D yn,E ys,A b1 yl.length e1,A b2 yks.length e2])∈vr:=by simp):
  Calls Tryz.prog 128 #[M #[C D yk,C D yn,E ys,A b1 yl.length e1,A b2 yks.length e2]] W Q:=by
 obtain⟨h1,h2⟩:=Pv (H.vr _ ha);exact xB H (Ep (.mk yk yn ys yl yks) hs c.F b1 e1 b2 e2 W H.ok.fl h1 h2) fun W' h=>k W' _ rfl h
theorem EI.la2(h:EI c0 w mp mb hv G true c st ls nr vr ow W){j b:Nat}{cs:Array Value}{T:TypeId}(hj:ls[j]? = J (b,cs,T)):C4 W [(mp,#[.map (J mb),hv.val,C D st.left],73),(b,cs,T)]:=⟨(h.ms rfl).head,h.locs _ (lgM hj),trivial⟩
end
theorem chk_snoc{l v}(h:∀x∈l,Am x=true)(hv:Am v=true):Hid (∀x∈l++[v],Am x=true):=Lq7 fun x hx=>(List.mem_append.1 hx).elim (h x) fun h=>by rw[List.mem_singleton.1 h];exact hv
theorem list_d{mp mb hv ex}(hx:XN 74 mp mb hv ex):XDoes 124 mp mb hv (P1 ex):=by
 intro G cc w st n v hm hG hn aC aD;obtain⟨kk,t,l,k,kids⟩:=n;obtain⟨a,cap,rfl,hr⟩:=hn.open;obtain⟨z,hz⟩:∃z,z=P1 ex (.mk kk t l k kids) st:=⟨_,rfl⟩;rw[<-hz] at aD |-;have Hn:=Lq7 aD;have Hx:=Lq7 hx;rw[Cf] at aC;have aB:=Lq7 aC;have S:Hid (z=EM.bind (Ip ex (kids.drop 0) []) (fun l'=>D8 (.mk 4 0 ⟨#[]⟩ l' []) l k) st):=Lq7 hz;have H:=Lq7 ((EI.start hm hG hr).start4 (n:=#[C D kk,E t,C D l,C D k,A a kids.length cap]) (v:=#[C D 0,C D 0,E ⟨#[]⟩,A I 0 0,A I 0 0]) (f:=#[C D 0,C D 0,C D 0]) (x:=#[C D 4,C D 0,E ⟨#[]⟩,A I 0 0,A I 0 0]) (T:=27) (T':=53) (T2:=75) (T3:=53));clear hz aD hx aC hn hm hG hr;unfold ptr;go_enter Tryz.func124,Tryz.ntmps124;go_wp2_with fail;generalize World.alloc _ _=W at H |-;have H:=Lq7 (H.out.row0 53 5)
 go_loopw [15] (fun i wr=>∃(j:Nat) (acc:List Vl) (aL:Option Addr) (cL:Nat) (c1:Ctx) (aA:St),i = C D j/\j<=kids.length/\Hid (EI cc w mp mb hv G true c1 aA [(w.heap.size,#[C D kk,E t,C D l,C D k,A a kids.length cap],27),(w.heap.size+1,#[C D 0,C D 0,E ⟨#[]⟩,A I 0 0,A I 0 0],53),(w.heap.size+1+1,#[C D 0,C D 0,C D 0],75),(w.heap.size+1+1+1,#[C D 4,C D 0,E ⟨#[]⟩,A aL j cL,A I 0 0],53)] [(a,kids)] [] (Gk W.heap.size 53 5 aL j cL (Ar acc)) wr)/\Hid (z=EM.bind (Ip ex (kids.drop j) acc) (fun l'=>D8 (.mk 4 0 ⟨#[]⟩ l' []) l k) aA)/\Hid (∀x∈acc,Am x=true)) (fun i _=>kids.length-(intOf i).toNat)
 case atStart=>exact⟨0,[],I,0,cc,st,rfl,nlz _,H,S,Lq7 (by simp)⟩
 case round=>
  obtain⟨j,acc,aL,cL,c1,aA,rfl,hj,H,S,HC⟩:=hrel;by_cases hlt:j<kids.length
  ·cases hz:kids[j] with
   | mk xk xt xl xc xs=>
    have aE:kids[j]? = J (.mk xk xt xl xc xs):=(by rw[lgE hlt,hz]);have hS:z=EM.bind (EM.bind (ex (.mk xk xt xl xc xs)) fun x=>Ip ex (kids.drop (j+1)) (acc++[x])) (fun l'=>D8 (.mk 4 0 ⟨#[]⟩ l' []) l k) aA:=(by rw[S.out,List.drop_eq_getElem_cons hlt,hz];rfl);have S:=Lq7 hS;obtain⟨b,off,a1,c1',rfl,-,hbl,r0,r1,r2,r3,r4,Hcp,aF⟩:=(H.out.nr _ (lmS ..)).nodeK aE;have H:=Lq7 (H.out.node aF);have Hs:=Lq7 (Ex aB.out.2.2 (lgM aE));have hkl:=aB.out.2.1;have Hj:Hid (j<=1000000):=Lq7 (by have:=aB.out.2.1;omega);clear aE hz aF hS;refine goM ?_;exact xdrv
  ·obtain⟨c2,h,hr,hl⟩:=H.out.rowDone;rw[Bi] at hl;subst hl;have S:Hid (z=D8 (.mk 4 0 ⟨#[]⟩ acc []) l k aA):=Lq7 (S.out.trans (by rw[List.drop_eq_nil_of_le (by omega)];rfl));have Hv:Hid (Ay (.mk 4 0 ⟨#[]⟩ acc [])):=Lq7 (by
    rw[Ay];exact⟨⟨by decide,rfl⟩,by have:=aB.out.2.1;omega,by simp,by simp,Ol fun x hx=>Bw (HC.out x hx)⟩)
   have H:=Lq7 (h.val (Ai.val_mk (l:=acc) (ks:=[]) (a':=I) 4 0 ⟨#[]⟩ cL 0 hr (Ac.nil _)));clear h hr;refine goM ?_;exact xdrv
theorem Aak{l:List (ByteArray×Vl)}{s v}(h:∀x∈l,Am x.2=true)(hv:Am v=true):Hid (∀x∈l++[(s,v)],Am x.2=true):=Lq7 fun x hx=>(List.mem_append.1 hx).elim (h x) fun h=>by rw[List.mem_singleton.1 h];exact hv
theorem Q9{P:Program}{ops:Array Oper}{Q:Exit->Act->World->Prop}{o:Oper}{rest:List Oper}{a:Act}{w:World}{r x:Operand}{m:String}{ats:Array TypeId}{f:FuncId}{args:Array Value}{v arg:Value}{PP:Ending->World->Prop}
  (ho:o.op = .call { callee:=.invoke r m,args:=#[x],argTypes:=ats}) (hg:Region.wanted o (yielded ops a.tmps)=true) (hr:a.eval r=v) (hx:a.eval x=arg)
  (hi:(invoke (.fn (.method m) #[]) #[v,arg]).run P w = .ok (.enter f args) w) (hc:Calls P f args w PP) (hp:∀e w',PP e w'->∃u,e = .returned u/\wpList P ops Q rest (a.put o.dst u) w'):wpList P ops Q (o::rest) a w:=by
 rw[wpList,if_pos hg];refine .inl ?_;unfold Oper.wp;have he:(execOp a.eval o).run P w = .ok (.enter f args) w:=by
  rw[<-hi,<-hr,<-hx];obtain⟨dst,op,ty,pos,aft,gd⟩:=o;simp only at ho;subst ho;simp[execOp,resolve]
 rw[he,Oper.upon_enter];exact hc.mono fun e w' h=>by
  obtain⟨u,rfl,h2⟩:=hp e w' h;exact h2
def Rt(fn:Nat)(rv:Value)(mp mb:Nat)(hv:Dq):Prop:=
 ∀(c:Ctx) (w:World) (st:St) (q:Ask) (a:Option Addr) (cap:Nat),MS c w mp mb hv st->Ac c.F w a (Bx q.args)->(∀x∈q.args,Am x.2=true)->q.name.size<=maxLen->q.args.length<=1000000->hv.ans st.log q≠I ->
  Calls Tryz.prog fn #[rv,M #[E q.name,A a q.args.length cap,C D q.ln,C D q.cl]] w (fun e w'=>∃c',Mv c w c' w'/\MS c' w' mp mb hv { st with log:=st.log++[q]}/\match hv.ans st.log q with
   | some (.ok x)=>∃cs:List Value,e = .returned (.tuple #[.agg cs.toArray,C D 0])/\Ai c'.F w' (valD x) cs/\Ay x
   | some (.error y)=>e = .returned (.tuple #[zeroV,C D y])/\y≠0
   | none=>True)
def HInv(fn:Nat)(rv:Value)(hv:Dq):Prop:=∀(arg:Value) (w:World),(invoke (.fn (.method "Call") #[]) #[hv.val,arg]).run Tryz.prog w = .ok (.enter fn #[rv,arg]) w
section
variable {c0 c c':Ctx} {w W W':World} {mp mb:Nat} {hv:Dq} {G:Nat->Prop} {lv:Bool} {st st':St} {ls:List (Nat×Array Value×TypeId)} {nr:List (Option Addr×List Nd)} {vr:List (List Dat×List Value)} {ow:OwS} {z:ER Vl} {base:Nat} {aL:Option Addr} {n cL fn:Nat} {rv:Value}
theorem xHost{q:Ask}(hdo:Rt fn rv mp mb hv)(hin:HInv fn rv hv)(Hn:Hid (z ≠ .out))(S:Hid (z=Jv hv.ans q st))(h1:∀x∈q.args,Am x.2=true)(h2:q.name.size<=maxLen)(h3:q.args.length<=1000000)
  {ops:Array Oper} {Q:Exit->Act->World->Prop} {o:Oper} {rest:List Oper} {a:Act} {r x:Operand} {ats:Array TypeId}
  (herr:∀c' W' y,(y==0)=false->Hid (EI c0 w mp mb hv G true c' { st with log:=st.log++[q]} ls nr vr .nil W')->Hid (z = .err y q.ln q.cl)->wpList Tryz.prog ops Q rest (a.put o.dst (.tuple #[M #[C D 0,C D 0,E ⟨#[]⟩,A I 0 0,A I 0 0],C D y])) W')
  (hok:∀c' W' xk xn xs xl xks b1 e1 b2 e2,Hid (EI c0 w mp mb hv G true c' { st with log:=st.log++[q]} ls nr ((valD (.mk xk xn xs xl xks),[C D xk,C D xn,E xs,A b1 xl.length e1,A b2 xks.length e2])::vr) .nil W')->Hid (Ay (.mk xk xn xs xl xks))->Hid (z=if Am (.mk xk xn xs xl xks) then .ok (.mk xk xn xs xl xks) { st with log:=st.log++[q]} else .err 1 q.ln q.cl) ->
   wpList Tryz.prog ops Q rest (a.put o.dst (.tuple #[M #[C D xk,C D xn,E xs,A b1 xl.length e1,A b2 xks.length e2],C D 0])) W')
  (H:EI c0 w mp mb hv G true c st ls nr vr (Gk base 55 6 aL n cL (Bx q.args)) W:=by exact gH)
  (ho:o.op = .call { callee:=.invoke r "Call",args:=#[x],argTypes:=ats}:=by rfl) (hg:Region.wanted o (yielded ops a.tmps)=true:=by rfl) (hr:a.eval r=hv.val:=by rfl) (hx:a.eval x = M #[E q.name,A aL q.args.length cL,C D q.ln,C D q.cl]:=by rfl):wpList Tryz.prog ops Q (o::rest) a W:=by
 obtain⟨c1,h,aD,-⟩:=H.rowDone;refine Q9 ho hg hr hx (hin _ _) (hdo c1 W st q aL cL (h.ms rfl) aD h1 h2 h3 (fun e=>Hn.out (by rw[S.out,Jv,e]))) ?_;rintro e w5 ⟨c5,hmv,aH,hq⟩;cases hans:hv.ans st.log q with
 | none=>exact absurd (by rw[S.out,Jv,hans]) Hn.out
 | some r=>
  rw[hans] at hq;have h':=h.call hmv aH.ok (fun _=>aH);cases r with
  | error y=>
   obtain⟨rfl,hy⟩:=hq;exact⟨_,rfl,herr _ w5 y (by simpa using hy) (Lq7 h') (Lq7 (by rw[S.out,Jv,hans]))⟩
  | ok x=>
   obtain⟨xk,xn,xs,xl,xks⟩:=x;obtain⟨cs,rfl,aC,hsv⟩:=hq;obtain⟨b1,e1,b2,e2,rfl,-,-⟩:=aC.val;exact⟨_,rfl,hok _ w5 xk xn xs xl xks b1 e1 b2 e2 (Lq7 (h'.val (aC.wider fun b hb _=> .inl hb))) (Lq7 hsv) (Lq7 (by rw[S.out,Jv,hans]))⟩
end
theorem call_d{mp mb hv ex fn rv}(hdo:Rt fn rv mp mb hv)(hin:HInv fn rv hv)(hx:XN 74 mp mb hv ex):XDoes 126 mp mb hv (Mo hv.ans ex):=by
 intro G cc w st n v hm hG hn aE aF;obtain⟨kk,t,l,k,kids⟩:=n;obtain⟨a,cap,rfl,hr⟩:=hn.open;obtain⟨z,hz⟩:∃z,z=Mo hv.ans ex (.mk kk t l k kids) st:=⟨_,rfl⟩;rw[<-hz] at aF |-;have Hn:=Lq7 aF;have Hx:=Lq7 hx;have aJ:=Lq7 hdo;have aM:=Lq7 hin;rw[Cf] at aE;have aA:=Lq7 aE;have S:Hid (z=EM.bind (J8 ex (kids.drop 0) []) (fun l'=>Jv hv.ans ⟨t,l',l,k⟩) st):=Lq7 hz;have H:=Lq7 ((EI.start hm hG hr).start4 (n:=#[C D kk,E t,C D l,C D k,A a kids.length cap]) (v:=#[C D 0,C D 0,E ⟨#[]⟩,A I 0 0,A I 0 0]) (f:=#[C D 0,C D 0,C D 0]) (x:=#[E t,A I 0 0,C D l,C D k]) (T:=27) (T':=53) (T2:=75) (T3:=201));obtain⟨r0,r1,r2,r3,r4,r5,r6,r7,r8,r9,r10⟩:=Aa (H.out.locs _ (lmS ..));clear hz aF hx aE hn hm hG hr hdo hin;unfold ptr;go_enter Tryz.func126,Tryz.ntmps126;go_wp2_with fail;clear r0 r1 r2 r3 r4 r5 r6 r7 r8 r9 r10;generalize World.alloc _ _=W at H |-;have H:=Lq7 (H.out.row0 55 6)
 go_loopw [21] (fun i wr=>∃(j:Nat) (acc:List (ByteArray×Vl)) (aL:Option Addr) (cL:Nat) (c1:Ctx) (aB:St),i = C D j/\j<=kids.length/\Hid (EI cc w mp mb hv G true c1 aB [(w.heap.size,#[C D kk,E t,C D l,C D k,A a kids.length cap],27),(w.heap.size+1,#[C D 0,C D 0,E ⟨#[]⟩,A I 0 0,A I 0 0],53),(w.heap.size+1+1,#[C D 0,C D 0,C D 0],75),(w.heap.size+1+1+1,#[E t,A aL j cL,C D l,C D k],201)] [(a,kids)] [] (Gk W.heap.size 55 6 aL j cL (Bx acc)) wr)/\Hid (z=EM.bind (J8 ex (kids.drop j) acc) (fun l'=>Jv hv.ans ⟨t,l',l,k⟩) aB)/\Hid (∀x∈acc,Am x.2=true)) (fun i _=>kids.length-(intOf i).toNat)
 case atStart=>exact⟨0,[],I,0,cc,st,rfl,nlz _,H,S,Lq7 (by simp)⟩
 case round=>
  obtain⟨j,acc,aL,cL,c1,aB,rfl,hj,H,S,HC⟩:=hrel;by_cases hlt:j<kids.length
  ·cases hz:kids[j] with
   | mk xk xt xl xc xs=>
    have aG:kids[j]? = J (.mk xk xt xl xc xs):=(by rw[lgE hlt,hz]);have hS:z=EM.bind (EM.bind (ex (kidN (.mk xk xt xl xc xs) 0)) fun x=>J8 ex (kids.drop (j+1)) (acc++[(xt,x)])) (fun l'=>Jv hv.ans ⟨t,l',l,k⟩) aB:=(by rw[S.out,List.drop_eq_getElem_cons hlt,hz];rfl);have S:=Lq7 hS;obtain⟨b,off,a1,c1',rfl,-,hbl,r0,r1,r2,r3,r4,Hcp,aN⟩:=(H.out.nr _ (lmS ..)).nodeK aG;have H:=Lq7 (H.out.node aN);have Hs:=Lq7 (Ex aA.out.2.2 (lgM aG));have HL:Hid (xs.length<=140737488355328):=Lq7 (by have:=Hs.out;rw[Cf] at this;omega);have hkl:=aA.out.2.1;have Hj:Hid (j<=1000000):=Lq7 (by have:=aA.out.2.1;omega);clear aG hz aN hS;refine goM ?_;exact xdrv
  ·have hl:=H.out.at'.2.2;rw[Kr] at hl;subst hl;have S:Hid (z=Jv hv.ans ⟨t,acc,l,k⟩ aB):=Lq7 (S.out.trans (by rw[List.drop_eq_nil_of_le (by omega)];rfl))
   ((try simp only[List.cons_append,List.nil_append,lsA,lsB] at H);(have hD:=H.out.fa);(simp only[FaA,PwA,NeB,and_true] at hD);go_wp2_with fail;all_goals (try clear hD))
   refine Bm (.s 0 (.s 1 (.s 2 (.s 3 (.s 4 (.b 5 (.s 6 (.s 7 (.s 8 (.h 9 (.h 10 (.s 11 .nil)))))) 9 (.h 5 (.s 6 (.s 7 (.s 8 (.h 10 (.s 11 .nil)))))))))))) 99 (fun W'=>C4 W' [(mp,#[.map (J mb),hv.val,C D aB.left],73),(w.heap.size+1+1+1,#[E t,A aL acc.length cL,C D l,C D k],201)]) (H.out.drew.la2 (j:=3) rfl) ?_;have H:=Lq7 H.out.drew;generalize World.drew _=Wd at H |-
   iterate 5 refine tS ?_
   refine Dz rfl rfl (fun K hK=>?_) (fun K hK=>?_)
   ·refine xHost aJ.out aM.out Hn S HC.out aA.out.1 (show acc.length<=1000000 by have:=aA.out.2.1;omega) (fun c V y hq H S=>?_) (fun c V xk xn xs xl xks b1 e1 b2 e2 H Hv S=>?_)
    ·exact xdrv
    ·exact xdrv
   ·have H:=Lq7 (H.out.alloc #[C D 0,C D 0,E ⟨#[]⟩,A I 0 0,A I 0 0] 53);simp only[List.cons_append,List.nil_append] at H;go_wp2_with fail;refine hK _ _ (fun _=>H.out.la2 (j:=3) rfl) ?_;generalize World.alloc _ _=Wd at H |-;refine Ae rfl (fun K hK=>?_);refine xHost aJ.out aM.out Hn S HC.out aA.out.1 (show acc.length<=1000000 by have:=aA.out.2.1;omega) (fun c V y hq H S=>?_) (fun c V xk xn xs xl xks b1 e1 b2 e2 H Hv S=>?_)
    ·exact xdrv
    ·exact xdrv
theorem expr_d{mp mb hv ex}(h1:XN 124 mp mb hv (P1 ex))(h2:XN 127 mp mb hv (eOp ex))(h3:XN 126 mp mb hv (Mo hv.ans ex))(h4:XN 125 mp mb hv (P5 ex))(G c w st kk t l k kids v)(hm:MS c w mp mb hv st)(hG:GOk G c w)(hn:A7 G w (.mk kk t l k kids) v)(hsn:Cf (.mk kk t l k kids))(hne:Jc hv.ans ex (.mk kk t l k kids) st ≠ .out)(h9:kk≠9):
  Calls Tryz.prog 74 #[ptr mp,v] w (EP mp mb hv EVal badV c (Jc hv.ans ex (.mk kk t l k kids) st) w):=by
 obtain⟨a,cap,rfl,hr⟩:=hn.open;obtain⟨z,hz⟩:∃z,z=Jc hv.ans ex (.mk kk t l k kids) st:=⟨_,rfl⟩;rw[<-hz] at hne |-;have Hn:=Lq7 hne;have H1:=Lq7 h1;have H2:=Lq7 h2;have H3:=Lq7 h3;have H4:=Lq7 h4;have Hs:=Lq7 hsn;have Hc:=Lq7 (A7.cap hn);have H:=Lq7 (EI.start hm hG hr);clear hne hsn hn hm hG hr h1 h2 h3 h4;unfold ptr;by_cases h12:kk=12
 ·subst h12;have S:Hid (z=EM.bind (De l k) (fun _=>P1 ex (.mk 12 t l k kids)) st):=Lq7 (hz.trans rfl);clear hz;have Hy:=H1;go_enter Tryz.func74,Tryz.ntmps74;go_wp2_with fail;exact xdrv
 by_cases h16:kk=16
 ·subst h16;have S:Hid (z=EM.bind (De l k) (fun _=>eOp ex (.mk 16 t l k kids)) st):=Lq7 (hz.trans rfl);clear hz;have Hy:=H2;go_enter Tryz.func74,Tryz.ntmps74;go_wp2_with fail;exact xdrv
 by_cases h14:kk=14
 ·subst h14;have S:Hid (z=EM.bind (De l k) (fun _=>Mo hv.ans ex (.mk 14 t l k kids)) st):=Lq7 (hz.trans rfl);clear hz;have Hy:=H3;go_enter Tryz.func74,Tryz.ntmps74;go_wp2_with fail;exact xdrv
 by_cases h13:kk=13
 ·subst h13;have S:Hid (z=EM.bind (De l k) (fun _=>P5 ex (.mk 13 t l k kids)) st):=Lq7 (hz.trans rfl);clear hz;have Hy:=H4;go_enter Tryz.func74,Tryz.ntmps74;go_wp2_with fail;exact xdrv
 by_cases h10:kk=10
 ·subst h10;have S:Hid (z=EM.bind (De l k) (fun _=>fun st=>match numOf t with|some x=> .ok (.mk 2 x ⟨#[]⟩ [] []) st|none=> .out) st):=Lq7 (hz.trans rfl);clear hz;go_enter Tryz.func74,Tryz.ntmps74;go_wp2_with fail;exact xdrv
 by_cases h11:kk=11
 ·subst h11;have S:Hid (z=EM.bind (De l k) (fun _=>D8 (.mk 3 0 t [] []) l k) st):=Lq7 (hz.trans rfl);clear hz;have Hv:Hid (Ay (.mk 3 0 t [] [])):=Lq7 (by have:=Hs.out;rw[Cf] at this;rw[Ay];exact⟨⟨this.1,rfl⟩,by simp,by simp,by simp,by rw[B6];trivial⟩);go_enter Tryz.func74,Tryz.ntmps74;go_wp2_with fail;exact xdrv
 have S:Hid (z=EM.bind (De l k) (fun _=>eFail 3 l k) st):=Lq7 (hz.trans (congrArg (fun g=>EM.bind (De l k) g st) (by funext _ st';simp only[Nd.kind,h9,h12,h16,h14,h13,h10,h11,if_false];rfl)));clear hz;go_enter Tryz.func74,Tryz.ntmps74;go_wp2_with fail;exact xdrv
theorem tL{ls:List (Nat×Array Value×TypeId)}{L:World->Prop}{W:World}{ops:Array Oper}{Q:Exit->Act->World->Prop}{fin i:Nat}{o:Oper}{rest:Tu}{a a':Act}{v:Value}(h:Ak Tryz.prog ops (fun W'=>C4 W' ls/\L W') Q fin rest a' W)(ho:ops[i]? = J o:=by rfl)(hw:Region.wanted o (yielded ops a.tmps)=true:=by rfl)
  (hv:∀W',C4 W' ls/\L W'->(execOp a.eval o).run Tryz.prog W' = .ok (.value v) W':=by intro W' hS;obtain⟨hS,hl⟩:=hS;(try dsimp only at hl);(repeat (obtain⟨h,hS⟩:=hS;obtain⟨_,h1,h2⟩:=Ao h;clear h));clear hS;go_simp;try rfl)
  (ha:a.put o.dst v=a':=by(try simp only[gX,Act.put]);rfl):Ak Tryz.prog ops (fun W'=>C4 W' ls/\L W') Q fin (.s i rest) a W:=Bp v hv h ho hw ha
theorem expr_d9{mp mb hv ex}(G c w st t l k kids v)(hm:MS c w mp mb hv st)(hG:GOk G c w)(hn:A7 G w (.mk 9 t l k kids) v)(hsn:Cf (.mk 9 t l k kids)):
  Calls Tryz.prog 74 #[ptr mp,v] w (EP mp mb hv EVal badV c (Jc hv.ans ex (.mk 9 t l k kids) st) w):=by
 obtain⟨a,cap,rfl,hr⟩:=hn.open;obtain⟨z,hz⟩:∃z,z=Jc hv.ans ex (.mk 9 t l k kids) st:=⟨_,rfl⟩;rw[<-hz];have Hs:=Lq7 hsn;have H:=Lq7 (EI.start hm hG hr);have S:Hid (z=EM.bind (De l k) (fun _ st=>match fixedV t with|some v=> .ok v st|none=>match lookN st.names t with|some v=> .ok v st|none=> .err 7 l k) st):=Lq7 (hz.trans rfl);clear hz hsn hn hm hG hr;unfold ptr;go_enter Tryz.func74,Tryz.ntmps74;go_wp2_with fail;refine xStep S (fun c V H S=>?_) (fun c V H S=>?_);rotate_left
 ·refine goM ?_;exact xdrv
 ((try simp only[List.cons_append,List.nil_append] at H);(have hD:=H.out.fa);(simp only[FaA,PwA,NeB,and_true] at hD);go_wp2_with fail;all_goals (try clear hD))
 refine xFixed S (fun V xk xn xs xl xks d1 d2 f1 f2 H S hk=>?_) (fun V x0 x1 x2 H S=>?_)
 ·refine goM ?_;exact xdrv
 ((try simp only[List.cons_append,List.nil_append] at H);(have hD:=H.out.fa);(simp only[FaA,PwA,NeB,and_true] at hD);go_wp2_with fail;all_goals (try clear hD))
 have H:=Lq7 (H.out.alloc #[C D x0,C D x1,E x2,A I 0 0,A I 0 0] 53);simp only[List.cons_append,List.nil_append] at H;generalize World.alloc _ _=W at H |-;have Hl:=Lq7 ((H.out.ms rfl).look_all t (by have:=Hs.out;rw[Cf] at this;exact this.1));rcases Hl.out with⟨h1,hlk⟩|⟨v,cs,h1,hag,hck,hlk⟩
 ·have S:Hid (z = .err 7 l k):=Lq7 (S.out.trans (by rw[h1]));unfold zeroV at hlk;clear Hl h1;have hd:W.drew.heap[mb]? = W.heap[mb]?:=rfl;refine Bm (.s 0 (.s 1 (.s 2 (.s 3 (.s 4 (.s 5 (.s 6 (.s 7 (.s 8 (.s 9 (.h 10 (.h 11 (.s 12 .nil))))))))))))) 99 (fun W'=>C4 W' [(mp,#[.map (J mb),hv.val,C D (st.left - 1)],73),(w.heap.size,#[C D 9,E t,C D l,C D k,A a kids.length cap],27)]/\(Instr.lookup 71 (.map (J mb)) (E t) true).run Tryz.prog W' = .ok (.tuple #[M #[C D 0,C D 0,E ⟨#[]⟩,A I 0 0,A I 0 0],.bool false]) W') ⟨⟨(H.out.ms rfl).head,H.out.locs _ (lmS ..),trivial⟩,hlk _ rfl⟩ ?_;have H:=Lq7 H.out.drew;generalize W.drew=Wd at H hd |-
  iterate 10 refine tL ?_
  refine Ae rfl (fun K hK=>?_);go_wp2_with fail;refine hK _ _ (fun _=>⟨⟨((H.out.alloc _ _).ms rfl).head,(H.out.alloc _ _).locs _ (List.mem_append_left _ (lmS ..)),trivial⟩,hlk _ ((((bRf _ Wd).alloc (nlr _) _).block _ ((H.out.ms rfl).ok.ml _ (H.out.ms rfl).hb)).trans hd)⟩) ?_;refine Ae rfl (fun K hK=>?_);go_wp2_with fail;refine hK _ _ (fun _=>⟨⟨((H.out.alloc _ _).ms rfl).head,(H.out.alloc _ _).locs _ (List.mem_append_left _ (lmS ..)),trivial⟩,hlk _ ((((bRf _ Wd).alloc (nlr _) _).block _ ((H.out.ms rfl).ok.ml _ (H.out.ms rfl).hb)).trans hd)⟩) ?_;refine tL ?_;refine A2 ?_;have H:=Lq7 (H.out.alloc #[C D 0,C D 0,E ⟨#[]⟩,A I 0 0,A I 0 0] 53);simp only[List.cons_append,List.nil_append] at H;generalize World.alloc _ _=W at H |-;refine goM ?_;exact xdrv
 ·obtain⟨xk,xn,xs,xl,xks⟩:=v;obtain⟨d1,f1,d2,f2,rfl,-,-⟩:=hag.val;have S:Hid (z = .ok (.mk xk xn xs xl xks) { st with left:=st.left - 1}):=Lq7 (S.out.trans (by rw[h1]));have H:=Lq7 (H.out.val hag);have hk:=Lq7 hck;clear Hl h1 hck hag;have hd:W.drew.heap[mb]? = W.heap[mb]?:=rfl;refine Bm (.s 0 (.s 1 (.s 2 (.s 3 (.s 4 (.s 5 (.s 6 (.s 7 (.s 8 (.s 9 (.h 10 (.h 11 (.s 12 .nil))))))))))))) 99 (fun W'=>C4 W' [(mp,#[.map (J mb),hv.val,C D (st.left - 1)],73),(w.heap.size,#[C D 9,E t,C D l,C D k,A a kids.length cap],27)]/\(Instr.lookup 71 (.map (J mb)) (E t) true).run Tryz.prog W' = .ok (.tuple #[M #[C D xk,C D xn,E xs,A d1 xl.length f1,A d2 xks.length f2],.bool true]) W') ⟨⟨(H.out.ms rfl).head,H.out.locs _ (lmS ..),trivial⟩,hlk _ rfl⟩ ?_;have H:=Lq7 H.out.drew;generalize W.drew=Wd at H hd |-
  iterate 10 refine tL ?_
  refine Ae rfl (fun K hK=>?_);go_wp2_with fail;refine hK _ _ (fun _=>⟨⟨((H.out.alloc _ _).ms rfl).head,(H.out.alloc _ _).locs _ (List.mem_append_left _ (lmS ..)),trivial⟩,hlk _ ((((bRf _ Wd).alloc (nlr _) _).block _ ((H.out.ms rfl).ok.ml _ (H.out.ms rfl).hb)).trans hd)⟩) ?_;refine Ae rfl (fun K hK=>?_);go_wp2_with fail;refine hK _ _ (fun _=>⟨⟨((H.out.alloc _ _).ms rfl).head,(H.out.alloc _ _).locs _ (List.mem_append_left _ (lmS ..)),trivial⟩,hlk _ ((((bRf _ Wd).alloc (nlr _) _).block _ ((H.out.ms rfl).ok.ml _ (H.out.ms rfl).hb)).trans hd)⟩) ?_;refine tL ?_;refine A2 ?_;have H:=Lq7 (H.out.alloc #[C D xk,C D xn,E xs,A d1 xl.length f1,A d2 xks.length f2] 53);simp only[List.cons_append,List.nil_append] at H;generalize World.alloc _ _=W at H |-;refine goM ?_;exact xdrv
theorem expr_xd{mp mb hv ex}(h1:XN 124 mp mb hv (P1 ex))(h2:XN 127 mp mb hv (eOp ex))(h3:XN 126 mp mb hv (Mo hv.ans ex))(h4:XN 125 mp mb hv (P5 ex)):XDoes 74 mp mb hv (Jc hv.ans ex):=by
 intro G c w st n v hm hG hn hsn hne;obtain⟨kk,t,l,k,kids⟩:=n;by_cases h:kk=9
 ·subst h;exact expr_d9 G c w st t l k kids v hm hG hn hsn
 ·exact expr_d h1 h2 h3 h4 G c w st kk t l k kids v hm hG hn hsn hne h
end Go.Proofs.YtlbbbapiklendaaGreatDoor
