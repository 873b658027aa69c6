/-
  The walk of the evaluator's Run over any host,over no names. (Printed by runN_gen.py out of XRunK.)
-/
import Derived.Test.YtlbbbapiklendaaGreatDoorMHostK
import Derived.Test.YtlbbbapiklendaaGreatDoorMCopyE
namespace Go.Proofs.YtlbbbapiklendaaGreatDoor
open Go.IntKind renaming i64->B
open Go.Value renaming int->A,string->H,slice->C
open Go.Obj renaming cells->E
open Nat renaming le_refl->nlr,le_trans->nlt
open Go.Lib renaming hid->Lq7
open And renaming intro->aIn
open Go.RowKit.Below renaming refl->bRf
set_option maxRecDepth 100000
set_option maxHeartbeats 16000000
open Go Go.RowKit Go.Maps
def PRunN(own F:Nat->Prop)(hv:Dq)(r:ER Unit)(w:World)(e:Ending)(w':World):Prop:=∃c',Mv ⟨own,F⟩ w c' w'/\match r with
 | .ok _ st=>(∃own':Nat->Prop,(∀b,own' b->c'.M b)/\hv.At own' c'.F w' st.log)/\st.names.length<=1000000/\(∀q∈st.names,Am q.2=true/\q.1.size<=maxLen)/\∃a cap,e = .returned (.tuple #[C a (C5 st.names).length cap,A B 0,.agg #[A B 0,A B 0]])/\Ac c'.F w' a (Bx (C5 st.names))
 | .err x l k=>e = .returned (.tuple #[C none 0 0,A B x,.agg #[A B l,A B k]])
 | .out=>True
theorem infoNamed:(Tryz.prog.info? 55).map (fun i=>(i.zero,i.size,i.bytes))=some (some (.agg #[H ByteArray.empty,A B 0,A B 0,H ByteArray.empty,C none 0 0,C none 0 0]),6,96):=by kernel_rfl
theorem ms_startK{own F}(w o hv n)(hn:n<=1000000 /\ -1<=n)(hok:(⟨own,F⟩:Ctx).Ok w)(hat:hv.At own F w []):
  MS ⟨fun b=>own b\/b=w.heap.size+1\/b=w.heap.size+1+1,F⟩ (((w.alloc o).alloc (.map #[] 0)).alloc (E #[.map (some (w.heap.size+1)),hv.val,A B n] 73)) (w.heap.size+1+1) (w.heap.size+1) hv ⟨[],n,[]⟩:=by
 obtain⟨h1,h2,h3,h4,h5⟩:=Gg w o (.map #[] 0) (E #[.map (some (w.heap.size+1)),hv.val,A B n] 73);refine⟨⟨fun b hb=>?_,fun b hb=>?_,fun b hb h=>?_⟩,h3,.inr (.inr rfl),.inr (.inl rfl),⟨[],⟨#[],0,h2,Go.MapKept.stamped_empty 0,rfl⟩,rfl,fun j p q h=>by simp at h⟩,List.nodup_nil,hn,fun q hq=>(by cases hq),own,fun b hb=>⟨.inl hb,?_,?_⟩,hv.stab hat (fun _ h=>h) h4.size (fun b _ hl=>h4.block b hl)⟩
 ·rw[h5];rcases hb with hb|rfl|rfl
  ·have:=hok.ml b hb;omega
  ·omega
  ·omega
 ·have:=hok.fl b hb;omega
 ·have:=hok.fl b hb;rcases h with h|h|h
  ·exact hok.apart b hb h
  ·omega
  ·omega
 ·have:=hok.ml b hb;omega
 ·have:=hok.ml b hb;omega
theorem runN_any{hv}{fn:Nat}{rv}(hop:OpC)(hdo:∀mp mb,Rt fn rv mp mb hv)(hin:HInv fn rv hv)(ha:Om hv.ans)(own F)(f:Nat)(G l a)(cap:Nat)(n)(w:World)(hok:(⟨own,F⟩:Ctx).Ok w)(te pe)(hvi:hv.val = .iface te pe)(hat:hv.At own F w [])(hGo:∀b,G b->¬own b)(hn:n<=1000000 /\ -1<=n)(hG:∀b,G b->b<w.heap.size)(hr:Ac G w a (Au l))(hsn:smallNs l)(hlen:l.length<=1000000)(hne:L6 hv.ans f l n ≠ .out)(hfl:∀st,L6 hv.ans f l n = .ok () st->st.names.length<=1000000):
  Calls Tryz.prog 7 #[C a l.length cap,C none 0 0,.iface te pe,A B n] w (PRunN own F hv (L6 hv.ans f l n) w):=by
 have hmm:=@run_makeMap Tryz.prog;obtain⟨h1,h2,h3,h4,h5⟩:=Gg w (E #[A B 0,A B 0] 24) (.map #[] 0) (E #[.map (some (w.heap.size+1)),.iface te pe,A B n] 73);have H0:=Lq7 (aIn (hvi▸ms_startK w (E #[A B 0,A B 0] 24) hv n hn hok hat) (aIn h1 (aIn (hr.below h4) h4)));have hM0:Mv ⟨own,F⟩ w ⟨fun b=>own b\/b=w.heap.size+1\/b=w.heap.size+1+1,F⟩ (((w.alloc (E #[A B 0,A B 0] 24)).alloc (.map #[] 0)).alloc (E #[.map (some (w.heap.size+1)),.iface te pe,A B n] 73)):=
  ⟨h4.os,h4.tape,h4.output,h4.size,fun b hb _=>h4.block b hb,fun b hb=>by
   rcases hb with hb|rfl|rfl
   ·exact .inl hb
   ·exact .inr (by omega)
   ·exact .inr (by omega),fun b hb=> .inl hb⟩
 have bW:=Lq7 hM0;have bE:Hid (¬(own w.heap.size\/w.heap.size=w.heap.size+1\/w.heap.size=w.heap.size+1+1)/\¬F w.heap.size):=Lq7 ⟨fun h=>by
  rcases h with h|h|h
  ·exact absurd (hok.ml _ h) (Nat.lt_irrefl _)
  ·omega
  ·omega,fun h=>absurd (hok.fl _ h) (Nat.lt_irrefl _)⟩
 have Hop:=Lq7 hop;have Hdo:=Lq7 hdo;have Hin:=Lq7 hin;have bG:=Lq7 ha;have HGo:=Lq7 hGo;have bX:=Lq7 hne;have Hfl:=Lq7 hfl;have Hsn:=Lq7 hsn;have HG:=Lq7 hG;go_enter Tryz.func7,Tryz.ntmps7;go_wp2_with fail;generalize World.alloc _ _=W0 at H0 bW |-
 go_loopw [25] (fun i wr=>i = A B 0/\wr=W0) (fun _ _=>0)
 case atStart=>exact⟨rfl,rfl⟩
 case round=>
  obtain⟨rfl,hwr⟩:=hrel;subst hwr;have Hc:=Lq7 (Xu (mp:=w.heap.size+1+1) (mb:=w.heap.size+1) (hv:=hv) (ENz.stmts bG.out f) (P3 Hop.out (Hdo.out _ _) Hin.out bG.out f) G _ wr _ l a cap H0.out.1 (fun b hb=>⟨by have:=HG.out b hb;have:=H0.out.2.2.2.size;omega,fun h=>by
   have:=HG.out b hb;rcases h with h|h|h
   ·exact HGo.out b hb h
   ·omega
   ·omega⟩) H0.out.2.2.1 Hsn.out hlen bX.out)
  unfold ptr at Hc;go_wp2_with fail;refine Hc.out.mono ?_;rintro e w1 ⟨c',bA,hq⟩;have hpl:w1.heap[w.heap.size]? = some (E #[A B 0,A B 0] 24 (0,0)):=(bA.block _ (here H0.out.2.1) bE.out.1).trans H0.out.2.1;have hmw:=bW.out.trans bA;have hpo:¬c'.M w.heap.size/\¬c'.F w.heap.size:=⟨fun h=>by
   rcases bA.m _ h with h1|h1
   ·exact bE.out.1 h1
   ·have:=here H0.out.2.1;omega,fun h=>by
   rcases bA.f _ h with h1|h1
   ·exact bE.out.2 h1
   ·have:=here H0.out.2.1;omega⟩
  have H1:=Lq7 (aIn hpl hmw);have bH:=Lq7 hpo;have bB:L6 hv.ans f l n=Dk (Fs hv.ans f) l ⟨[],n,[]⟩:=rfl;cases hres:Dk (Fs hv.ans f) l ⟨[],n,[]⟩ with
  | out=>exact absurd (bB.trans hres) bX.out
  | err x y z=>
   rw[hres] at hq;obtain rfl:=hq;have hxz:=ENz.block (ENz.stmts bG.out f) l _ _ _ _ hres;have hxz':(x==0)=false:=(by simpa using hxz);have aF:=Lq7 (bB.trans hres);unfold Bk
   go_upto_region 9 with fail
   have bY:Below w1.heap.size w1 (w1.alloc (E #[A B x,A B y,A B z] 75)):=(bRf _ w1).alloc (nlr _) _;have H2:=Lq7 (aIn (stays H1.out.1 bY) (aIn (heap_alloc_new w1 (E #[A B x,A B y,A B z] 75)) (H1.out.2.below bY)));have hfb:w.heap.size<w1.heap.size:=here H1.out.1;generalize World.alloc _ _=W at H2 |-;generalize w1.heap.size=fb at H2 hfb |-;refine Bm (.s 0 (.s 1 (.s 2 (.s 3 (.s 4 (.s 5 (.h 6 .nil))))))) 6 (fun W'=>W'.heap[fb]? = some (E #[A B x,A B y,A B z] 75 (0,0))) H2.out.2.1 ?_;have bZ:Below W.heap.size W W.drew:=(bRf _ W).drew;have H3:=Lq7 (aIn (stays H2.out.1 bZ) (H2.out.2.2.below bZ));generalize W.drew=Wd at H3 |-;refine Aw (.pointer (some ⟨fb,0,none⟩)) ?_;refine A9 (A B x) ?_;refine Aw (.pointer (some ⟨fb,1,none⟩)) ?_;refine A9 (.agg #[A B y,A B z]) ?_;refine Aw (C none 0 0) ?_;refine Aw (A B x) ?_;obtain⟨q0,q1,q2,q3,q4⟩:=A8 H3.out.1;refine Ae rfl (fun Kx hKx=>?_);go_wp2_with fail;have H4:=Lq7 ((H3.out.2.set (.inl (nlr _)) 0 (A B y)).set (.inl (nlr _)) 1 (A B z));have h5:((Wd.setCell ⟨w.heap.size,0,none⟩ (A B y)).setCell ⟨w.heap.size,1,none⟩ (A B z)).heap[w.heap.size]? = some (E #[A B y,A B z] 24 (0,0)):=(by rw[Af (Af H3.out.1 0 _) 1];rfl);refine hKx _ _ (fun h=>absurd rfl h) ?_;generalize World.setCell _ _ _=W5 at H4 h5 |-;refine A2 ?_;(try simp only[gX,Act.put]);obtain⟨q0,q1,q2,q3,q4⟩:=A8 h5;go_wp2_with fail;refine bodyPost_ret (v:=.tuple #[C none 0 0,A B x,.agg #[A B y,A B z]]) (by simp[results,Tryz.results7,go_sem,q1,q2]) rfl ?_;rw[aF.out];exact⟨c',H4.out,rfl⟩
  | ok u st=>
   rw[hres] at hq;obtain⟨hms,v,rfl,hv⟩:=hq;obtain rfl:v=Bk 0 0 0:=hv;have aF:=Lq7 (bB.trans hres);have Hfl':=Lq7 (Hfl.out st (bB.trans hres));have cA:=Lq7 hms;unfold Bk;have bI:Below w1.heap.size w1 (w1.alloc (E #[A B 0,A B 0,A B 0] 75)):=(bRf _ w1).alloc (nlr _) _;have H2:=Lq7 (aIn (cA.out.below bI) (aIn (stays H1.out.1 bI) (H1.out.2.below bI)));obtain⟨q0,q1,q2,q3,q4,q5,q6⟩:=Bh cA.out.head;go_wp2_with fail;generalize World.alloc _ _=W at H2 |-;have cC:=Hfl'.out;obtain⟨D,hown,aM,aC⟩:=H2.out.1.owns (by omega);refine((callsIn_wide (n:=5)).1 (Tryz.maps_Keys_22 (some (w.heap.size+1)) W)).mono ?_;rintro e w2 ⟨rfl,hw2⟩;subst hw2;have HS:=Lq7 ((callsIn_wide (n:=5)).1 (Tryz.slices_Sorted_keys_21_22 (w.heap.size+1) _ D anyElem W hown (by rw[aC];unfold maxLen;omega) (by rw[aC];omega)));have aN:=Lq7 aM;have bJ:Below W.heap.size W (W.alloc (E #[.map (some (w.heap.size+1))] 71)):=(bRf _ W).alloc (nlr _) _;have H3:=Lq7 (aIn (H2.out.1.below bJ) (aIn (stays H2.out.2.1 bJ) (H2.out.2.2.below bJ)));go_wp2_with fail;refine HS.out.mono ?_;rintro e w3 ⟨v,ss,rfl,hS,aG,-,bL⟩;have hK:=Rx (hS.trans aN.out) aG;obtain⟨aK,cK,rfl,hst,-⟩:=hK.strsAt;have Hst:=Lq7 hst;have H4:=Lq7 (aIn (H3.out.1.below bL) (aIn (stays H3.out.2.1 bL) (H3.out.2.2.below bL)));have hkl:(Cs st.names).length<=1000000:=(by rw[Ny];exact cC);obtain⟨i0,hi,hz0,hz1,hz2⟩:=info_parts infoNamed;go_wp2_with fail
   go_loopw [15,55] (fun v i wr=>∃j:Nat,i = A B j/\j<=(Cs st.names).length/\Hid (OwnD (fun b=>c'.F b\/w3.heap.size<=b) wr w3.heap.size 55 6 v (Bx ((C5 st.names).take j)))/\Hid (Below w3.heap.size w3 wr)) (fun _ i _=>(Cs st.names).length-(intOf i).toNat)
   case atStart=>exact⟨0,rfl,Nat.zero_le _,Lq7 (OwnD.nil _ _ _ _ _),Lq7 (bRf _ _)⟩
   case round=>
    obtain⟨j,rfl,hj,hown,aB⟩:=hrel;have Hm:=Lq7 (H4.out.1.below aB.out);obtain⟨q0,q1,q2,q3,q4,q5,q6⟩:=Bh Hm.out.head;by_cases hlt:j<(Cs st.names).length
    ·have bM:(Cs st.names)[j]? = some (Cs st.names)[j]:=List.getElem?_eq_getElem hlt;obtain⟨q,hq,cD⟩:=Rv (List.getElem_mem hlt);obtain⟨bK,oK,hak,hck⟩:=(Hst.out.below aB.out) j _ bM;subst hak;have bN:=Rw bM;generalize (Cs st.names)[j]=sn at bM cD hck bN;subst cD;obtain⟨cs,hlk,hag,hlook⟩:=Hm.out.look1 hq;have bO:=Hm.out.few q hq;obtain⟨nm,vk,vn,vs,vl,vks⟩:=q;obtain⟨a1,c1,a2,c2,rfl,hra,hrb⟩:=hag.val;rw[hlk,Option.getD_some] at bN;have Htk:Hid (Bx ((C5 st.names).take (j+1))=Bx ((C5 st.names).take j)++[Iq (nm,.mk vk vn vs vl vks)]):=Lq7 (by rw[List.take_add_one,bN,Ks];rfl);have bP:(Bx ((C5 st.names).take j)).length=j:=(by rw[Kr,List.length_take,R9];have:(Ez st.names).length=(Cs st.names).length:=(by simp[Cs]);omega);obtain⟨aO,cO,hO,-⟩:=(hown.out.keep (F:=fun b=>c'.F b\/w3.heap.size<=b) (fun _ _ _=>rfl) (nlr _)).rowAt (fun g hg=> .inr (hown.out.block_lt hg).1);rw[bP] at hO;subst hO;have cE:=Lq7 (U0 _ bO.1 c'.F a1 c1 a2 c2 wr (fun b hb=>Hm.out.ok.fl b hb) hra hrb);simp only[Vl.kind,Vl.num,Vl.str,Vl.items,Vl.keys] at cE;have HF3:=Lq7 (fun b (hb:c'.F b)=>H4.out.1.ok.fl b hb);go_wp2_with fail;refine cE.out.mono ?_;rintro e w4 ⟨bC,cs4,rfl,bQ⟩;obtain⟨x1,y1,x2,y2,rfl,hs1,hs2⟩:=bQ.val;have bD:Below w4.heap.size w4 (w4.alloc (E #[H nm,A B vk,A B vn,H vs,C x1 vl.length y1,C x2 vks.length y2] 55)):=(bRf _ w4).alloc (nlr _) _;have aQ:=Lq7 ((hown.out.below bC).below bD);have aR:=Lq7 (aB.out.trans ((bC.trans (bD.mono bC.size)).mono aB.out.size));have aU:=Ko w4 [H nm,A B vk,A B vn,H vs,C x1 vl.length y1,C x2 vks.length y2] 55;have aV:=Lq7 aU;have aD:∀b,(c'.F b\/wr.heap.size<=b)->b<w4.heap.size->((c'.F b\/w3.heap.size<=b)/\(Value.slice aO j cO).ownBlock≠some b)/\b<w4.heap.size/\w4.heap[b]? = w4.heap[b]?:=fun b hb hl=>
      ⟨⟨hb.imp id (fun h=>nlt aB.out.size h),fun hg=>by
       have h9:=hown.out.block_lt hg;rcases hb with hb|hb
       ·have:=HF3.out b hb;omega
       ·omega⟩,hl,rfl⟩
     have Hag:Hid (Ai (fun b=>(c'.F b\/w3.heap.size<=b)/\(Value.slice aO j cO).ownBlock≠some b) (w4.alloc (E #[H nm,A B vk,A B vn,H vs,C x1 vl.length y1,C x2 vks.length y2] 55)) (Iq (nm,.mk vk vn vs vl vks)) [H nm,A B vk,A B vn,H vs,C x1 vl.length y1,C x2 vks.length y2]):=Lq7 (Ai.named_mk nm vk vn vs y1 y2 ((hs1.mono aD).below bD) ((hs2.mono aD).below bD));have hsz4:w3.heap.size<=w4.heap.size:=nlt aB.out.size bC.size;have bR:Hid (∀g,(Value.slice aO j cO).ownBlock=some g->w3.heap.size<=g):=Lq7 (fun g hg=>(hown.out.block_lt hg).1)
     go_wp2_with (at_builtin;refine Df rfl _ _ 31 rfl w3.heap.size 55 i0 _ 6 96 Tryz.underlying31 hi hz0 hz1 hz2 rfl (by decide) (C aO j cO) (fun b=>c'.F b\/w3.heap.size<=b) (Bx ((C5 st.names).take j)) rfl aQ.out ⟨w4.heap.size,0,none⟩ 1 (Iq (nm,.mk vk vn vs vl vks)) [H nm,A B vk,A B vn,H vs,C x1 vl.length y1,C x2 vks.length y2] rfl rfl aV.out ?_ Hag.out ?_ ?_ ?_ ?_)
     ·simp[Value.oneCell']
     ·rw[bP];unfold maxLen;omega
     ·rw[bP];omega
     ·simp;omega
     intro v5 w5 aW aH _;have aA:Hid (OwnD (fun b=>c'.F b\/w3.heap.size<=b) w5 w3.heap.size 55 6 v5 (Bx ((C5 st.names).take (j+1)))):=Lq7 (by rw[Htk.out];exact aW);have bS:Hid (Below w3.heap.size w3 w5):=Lq7 (aR.out.trans (Cz aH bR.out aR.out.size));obtain⟨aO5,cO5,hO5,-⟩:=aA.out.rowAt (fun g hg=> .inr (aA.out.block_lt hg).1);subst hO5;go_wp2_with fail;go_roundw
     case rel=>exact⟨j+1,by go_num,by omega,aA,bS⟩
     case measure=>simp only[intOf];omega
    ·have hjl:(C5 st.names).take j=C5 st.names:=List.take_of_length_le (by rw[R9];have:(Ez st.names).length=(Cs st.names).length:=(by simp[Cs]);omega);rw[hjl] at hown;obtain⟨aO,cO,hO,aG⟩:=hown.out.rowAt (fun g hg=> .inr (hown.out.block_lt hg).1);subst hO;have bT:=Lq7 aG;have cF:=Lq7 (stays H4.out.2.1 aB.out);have bU:Hid (w3.heap.size<=wr.heap.size/\w.heap.size<w3.heap.size):=Lq7 ⟨aB.out.size,here H4.out.2.1⟩;have Hmv:=Lq7 (H4.out.2.2.below aB.out);obtain⟨r0,r1,r2,r3,r4⟩:=A8 cF.out;go_wp2_with fail;have aY:=Lq7 (((Hmv.out.with (g:=fun b=>w3.heap.size<=b/\b<wr.heap.size) (fun b hb=>by have:=bU.out;omega)).set (.inl (nlr _)) 0 (A B 0)).set (.inl (nlr _)) 1 (A B 0));have aZ:((wr.setCell ⟨w.heap.size,0,none⟩ (A B 0)).setCell ⟨w.heap.size,1,none⟩ (A B 0)).heap[w.heap.size]? = some (E #[A B 0,A B 0] 24 (0,0)):=(by rw[Af (Af cF.out 0 _) 1];rfl);have aJ:=Lq7 ((Hm.out.with (g:=fun b=>w3.heap.size<=b/\b<wr.heap.size) (fun b hb=>⟨hb.2,fun h=>by have:=H4.out.1.ok.ml b h;omega⟩)).other (w':=(wr.setCell ⟨w.heap.size,0,none⟩ (A B 0)).setCell ⟨w.heap.size,1,none⟩ (A B 0)) (by simp) (fun b _ hMF=>by
      have hne:b≠w.heap.size:=fun e=>by
       subst e;rcases hMF with h1|h1|h1
       ·exact bH.out.1 h1
       ·exact bH.out.2 h1
       ·have:=bU.out;omega
      rw[Ad hne,Ad hne]))
     have aE:Hid (Ac (c'.with (fun b=>w3.heap.size<=b/\b<wr.heap.size)).F ((wr.setCell ⟨w.heap.size,0,none⟩ (A B 0)).setCell ⟨w.heap.size,1,none⟩ (A B 0)) aO (Bx (C5 st.names))):=Lq7 (bT.out.mono fun b hb hl=>by
      have hne:b≠w.heap.size:=fun e=>by
       subst e;rcases hb with h1|h1
       ·exact bH.out.2 h1
       ·have:=bU.out;omega
      exact⟨hb.imp id (fun h=>⟨h,hl⟩),by simpa using hl,by rw[Ad hne,Ad hne]⟩)
     generalize World.setCell _ _ _=W6 at aY aZ aJ aE |-;obtain⟨p0,p1,p2,p3,p4⟩:=A8 aZ;refine bodyPost_ret (v:=.tuple #[C aO (Bx (C5 st.names)).length cO,A B 0,.agg #[A B 0,A B 0]]) (by simp[results,Tryz.results7,go_sem,p1,p2]) rfl ?_;rw[aF.out];obtain⟨own',ho,hh⟩:=aJ.out.host;exact⟨_,aY.out,⟨own',fun b hb=>(ho b hb).1,hh⟩,cC,aJ.out.few,aO,cO,by rw[Kr],aE.out⟩
end Go.Proofs.YtlbbbapiklendaaGreatDoor