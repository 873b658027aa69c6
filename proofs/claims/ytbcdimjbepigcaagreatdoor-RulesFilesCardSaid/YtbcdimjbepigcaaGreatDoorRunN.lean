/-
  The walk of the evaluator's Run over any host,over no names. (Printed by runN_gen.py out of XRunK.)
-/
import Derived.Test.YtbcdimjbepigcaaGreatDoorMHostK
import Derived.Test.YtbcdimjbepigcaaGreatDoorMCopyE
import Derived.Test.YtbcdimjbepigcaaGreatDoorMKeysB
import Derived.Test.YtbcdimjbepigcaaGreatDoorMParseNz
import Derived.Test.YtbcdimjbepigcaaGreatDoorIter
namespace Go.Proofs.YtbcdimjbepigcaaGreatDoor
open Nat renaming le_refl->nlr,le_trans->nlt
open Go.Lib renaming hid->Lq7
open And renaming intro->aIn
open Go.RowKit.Below renaming refl->bRf
set_option maxRecDepth 100000
set_option maxHeartbeats 16000000
open Go Go.RowKit Go.Maps
def PRunN(own F:Nat->Prop)(hv:Ec)(r:ER Unit)(w:World)(e:Ending)(w':World):Prop:=∃c',Mv ⟨own,F⟩ w c' w'/\match r with
 | .ok _ st=>(∃own':Nat->Prop,(∀b,own' b->c'.M b)/\hv.At own' c'.F w' st.log)/\st.names.length<=1000000/\(∀q∈st.names,A0 q.2=true/\q.1.size<=maxLen)/\∃a cap,e = .returned (.tuple #[.slice a (Cu st.names).length cap,.int .i64 0,.agg #[.int .i64 0,.int .i64 0]])/\Af c'.F w' a (Bv (Cu st.names))
 | .err x l k=>e = .returned (.tuple #[.slice none 0 0,.int .i64 x,.agg #[.int .i64 l,.int .i64 k]])
 | .out=>True
theorem infoNamed:(Tryz.prog.info? 75).map (fun i=>(i.zero,i.size,i.bytes))=some (some (.agg #[.string ByteArray.empty,.int .i64 0,.int .i64 0,.string ByteArray.empty,.slice none 0 0,.slice none 0 0]),6,96):=by kernel_rfl
theorem ms_startK{own F}(w o hv n)(hn:n<=1000000 /\ -1<=n)(hok:(⟨own,F⟩:Ctx).Ok w)(hat:hv.At own F w []):
  MS ⟨fun b=>own b\/b=w.heap.size+1\/b=w.heap.size+1+1,F⟩ (((w.alloc o).alloc (.map #[] 0)).alloc (.cells #[.map (some (w.heap.size+1)),hv.val,.int .i64 n] 93)) (w.heap.size+1+1) (w.heap.size+1) hv ⟨[],n,[]⟩:=by
 obtain⟨h1,h2,h3,h4,h5⟩:=Ch w o (.map #[] 0) (.cells #[.map (some (w.heap.size+1)),hv.val,.int .i64 n] 93);refine⟨⟨fun b hb=>?_,fun b hb=>?_,fun b hb h=>?_⟩,h3,.inr (.inr rfl),.inr (.inl rfl),⟨[],⟨#[],0,h2,Go.MapKept.stamped_empty 0,rfl⟩,rfl,fun j p q h=>by simp at h⟩,List.nodup_nil,hn,fun q hq=>(by cases hq),own,fun b hb=>⟨.inl hb,?_,?_⟩,hv.stab hat (fun _ h=>h) h4.size (fun b _ hl=>h4.block b hl)⟩
 ·rw[h5];rcases hb with hb|rfl|rfl
  ·have:=hok.ml b hb;omega
  ·omega
  ·omega
 ·have:=hok.fl b hb;omega
 ·have:=hok.fl b hb;rcases h with h|h|h
  ·exact hok.apart b hb h
  ·omega
  ·omega
 ·have:=hok.ml b hb;omega
 ·have:=hok.ml b hb;omega
theorem runN_any{hv}{fn:Nat}{rv}(hop:OpC)(hdo:∀mp mb,Rj fn rv mp mb hv)(hin:HInv fn rv hv)(ha:Ma hv.ans)(own F)(f:Nat)(G l a)(cap:Nat)(n)(w:World)(hok:(⟨own,F⟩:Ctx).Ok w)(te pe)(hvi:hv.val = .iface te pe)(hat:hv.At own F w [])(hGo:∀b,G b->¬own b)(hn:n<=1000000 /\ -1<=n)(hG:∀b,G b->b<w.heap.size)(hr:Af G w a (A2 l))(hsn:smallNs l)(hlen:l.length<=1000000)(hne:eRun hv.ans f l n ≠ .out)(hfl:∀st,eRun hv.ans f l n = .ok () st->st.names.length<=1000000):
  Calls Tryz.prog 19 #[.slice a l.length cap,.slice none 0 0,.iface te pe,.int .i64 n] w (PRunN own F hv (eRun hv.ans f l n) w):=by
 have hmm:=@run_makeMap Tryz.prog;obtain⟨h1,h2,h3,h4,h5⟩:=Ch w (.cells #[.int .i64 0,.int .i64 0] 28) (.map #[] 0) (.cells #[.map (some (w.heap.size+1)),.iface te pe,.int .i64 n] 93);have H0:=Lq7 (aIn (hvi▸ms_startK w (.cells #[.int .i64 0,.int .i64 0] 28) hv n hn hok hat) (aIn h1 (aIn (hr.below h4) h4)));have hM0:Mv ⟨own,F⟩ w ⟨fun b=>own b\/b=w.heap.size+1\/b=w.heap.size+1+1,F⟩ (((w.alloc (.cells #[.int .i64 0,.int .i64 0] 28)).alloc (.map #[] 0)).alloc (.cells #[.map (some (w.heap.size+1)),.iface te pe,.int .i64 n] 93)):=
  ⟨h4.os,h4.tape,h4.output,h4.size,fun b hb _=>h4.block b hb,fun b hb=>by
   rcases hb with hb|rfl|rfl
   ·exact .inl hb
   ·exact .inr (by omega)
   ·exact .inr (by omega),fun b hb=> .inl hb⟩
 have bW:=Lq7 hM0;have bG:Hid (¬(own w.heap.size\/w.heap.size=w.heap.size+1\/w.heap.size=w.heap.size+1+1)/\¬F w.heap.size):=Lq7 ⟨fun h=>by
  rcases h with h|h|h
  ·exact absurd (hok.ml _ h) (Nat.lt_irrefl _)
  ·omega
  ·omega,fun h=>absurd (hok.fl _ h) (Nat.lt_irrefl _)⟩
 have Hop:=Lq7 hop;have Hdo:=Lq7 hdo;have Hin:=Lq7 hin;have bH:=Lq7 ha;have HGo:=Lq7 hGo;have bX:=Lq7 hne;have Hfl:=Lq7 hfl;have Hsn:=Lq7 hsn;have HG:=Lq7 hG;go_enter Tryz.func19,Tryz.ntmps19;go_wp2_with fail;generalize World.alloc _ _=W0 at H0 bW |-
 go_loopw [25] (fun i wr=>i = .int .i64 0/\wr=W0) (fun _ _=>0)
 case atStart=>exact⟨rfl,rfl⟩
 case round=>
  obtain⟨rfl,hwr⟩:=hrel;subst hwr;have Hc:=Lq7 (J5 (mp:=w.heap.size+1+1) (mb:=w.heap.size+1) (hv:=hv) (ENz.stmts bH.out f) (Nk Hop.out (Hdo.out _ _) Hin.out bH.out f) G _ wr _ l a cap H0.out.1 (fun b hb=>⟨by have:=HG.out b hb;have:=H0.out.2.2.2.size;omega,fun h=>by
   have:=HG.out b hb;rcases h with h|h|h
   ·exact HGo.out b hb h
   ·omega
   ·omega⟩) H0.out.2.2.1 Hsn.out hlen bX.out)
  unfold ptr at Hc;go_wp2_with fail;refine Hc.out.mono ?_;rintro e w1 ⟨c',bC,hq⟩;have hpl:w1.heap[w.heap.size]? = some (.cells #[.int .i64 0,.int .i64 0] 28 (0,0)):=(bC.block _ (here H0.out.2.1) bG.out.1).trans H0.out.2.1;have hmw:=bW.out.trans bC;have hpo:¬c'.M w.heap.size/\¬c'.F w.heap.size:=⟨fun h=>by
   rcases bC.m _ h with h1|h1
   ·exact bG.out.1 h1
   ·have:=here H0.out.2.1;omega,fun h=>by
   rcases bC.f _ h with h1|h1
   ·exact bG.out.2 h1
   ·have:=here H0.out.2.1;omega⟩
  have H1:=Lq7 (aIn hpl hmw);have bI:=Lq7 hpo;have bD:eRun hv.ans f l n=Cs (Ll hv.ans f) l ⟨[],n,[]⟩:=rfl;cases hres:Cs (Ll hv.ans f) l ⟨[],n,[]⟩ with
  | out=>exact absurd (bD.trans hres) bX.out
  | err x y z=>
   rw[hres] at hq;obtain rfl:=hq;have hxz:=ENz.block (ENz.stmts bH.out f) l _ _ _ _ hres;have hxz':(x==0)=false:=(by simpa using hxz);have aG:=Lq7 (bD.trans hres);unfold Ai
   go_upto_region 9 with fail
   have bY:Below w1.heap.size w1 (w1.alloc (.cells #[.int .i64 x,.int .i64 y,.int .i64 z] 95)):=(bRf _ w1).alloc (nlr _) _;have H2:=Lq7 (aIn (stays H1.out.1 bY) (aIn (heap_alloc_new w1 (.cells #[.int .i64 x,.int .i64 y,.int .i64 z] 95)) (H1.out.2.below bY)));have hfb:w.heap.size<w1.heap.size:=here H1.out.1;generalize World.alloc _ _=W at H2 |-;generalize w1.heap.size=fb at H2 hfb |-;refine A4 (.s 0 (.s 1 (.s 2 (.s 3 (.s 4 (.s 5 (.h 6 .nil))))))) 6 (fun W'=>W'.heap[fb]? = some (.cells #[.int .i64 x,.int .i64 y,.int .i64 z] 95 (0,0))) H2.out.2.1 ?_;have bZ:Below W.heap.size W W.drew:=(bRf _ W).drew;have H3:=Lq7 (aIn (stays H2.out.1 bZ) (H2.out.2.2.below bZ));generalize W.drew=Wd at H3 |-;refine Aj (.pointer (some ⟨fb,0,none⟩)) ?_;refine Ap (.int .i64 x) ?_;refine Aj (.pointer (some ⟨fb,1,none⟩)) ?_;refine Ap (.agg #[.int .i64 y,.int .i64 z]) ?_;refine Aj (.slice none 0 0) ?_;refine Aj (.int .i64 x) ?_;obtain⟨q0,q1,q2,q3,q4⟩:=Av H3.out.1;refine Ac rfl (fun Kx hKx=>?_);go_wp2_with fail;have H4:=Lq7 ((H3.out.2.set (.inl (nlr _)) 0 (.int .i64 y)).set (.inl (nlr _)) 1 (.int .i64 z));have h5:((Wd.setCell ⟨w.heap.size,0,none⟩ (.int .i64 y)).setCell ⟨w.heap.size,1,none⟩ (.int .i64 z)).heap[w.heap.size]? = some (.cells #[.int .i64 y,.int .i64 z] 28 (0,0)):=(by rw[Ag (Ag H3.out.1 0 _) 1];rfl);refine hKx _ _ (fun h=>absurd rfl h) ?_;generalize World.setCell _ _ _=W5 at H4 h5 |-;refine Ak ?_;(try simp only[gX,Act.put]);obtain⟨q0,q1,q2,q3,q4⟩:=Av h5;go_wp2_with fail;refine bodyPost_ret (v:=.tuple #[.slice none 0 0,.int .i64 x,.agg #[.int .i64 y,.int .i64 z]]) (by simp[results,Tryz.results19,go_sem,q1,q2]) rfl ?_;rw[aG.out];exact⟨c',H4.out,rfl⟩
  | ok u st=>
   rw[hres] at hq;obtain⟨hms,v,rfl,hv⟩:=hq;obtain rfl:v=Ai 0 0 0:=hv;have aG:=Lq7 (bD.trans hres);have Hfl':=Lq7 (Hfl.out st (bD.trans hres));have cB:=Lq7 hms;unfold Ai;have bJ:Below w1.heap.size w1 (w1.alloc (.cells #[.int .i64 0,.int .i64 0,.int .i64 0] 95)):=(bRf _ w1).alloc (nlr _) _;have H2:=Lq7 (aIn (cB.out.below bJ) (aIn (stays H1.out.1 bJ) (H1.out.2.below bJ)));obtain⟨q0,q1,q2,q3,q4,q5,q6⟩:=Ah cB.out.head;go_wp2_with fail;generalize World.alloc _ _=W at H2 |-;have cC:=Hfl'.out;obtain⟨D,hown,aN,aD⟩:=H2.out.1.owns (by omega);refine((callsIn_wide (n:=5)).1 (Tryz.maps_Keys_41 (some (w.heap.size+1)) W)).mono ?_;rintro e w2 ⟨rfl,hw2⟩;subst hw2;have HS:=Lq7 ((callsIn_wide (n:=5)).1 (Tryz.slices_Sorted_keys_40_41 (w.heap.size+1) _ D anyElem W hown (by rw[aD];unfold maxLen;omega) (by rw[aD];omega)));have aQ:=Lq7 aN;have bL:Below W.heap.size W (W.alloc (.cells #[.map (some (w.heap.size+1))] 91)):=(bRf _ W).alloc (nlr _) _;have H3:=Lq7 (aIn (H2.out.1.below bL) (aIn (stays H2.out.2.1 bL) (H2.out.2.2.below bL)));go_wp2_with fail;refine HS.out.mono ?_;rintro e w3 ⟨v,ss,rfl,hS,aH,-,bM⟩;have hK:=Pd (hS.trans aQ.out) aH;obtain⟨aK,cK,rfl,hst,-⟩:=hK.strsAt;have Hst:=Lq7 hst;have H4:=Lq7 (aIn (H3.out.1.below bM) (aIn (stays H3.out.2.1 bM) (H3.out.2.2.below bM)));have hkl:(Cn st.names).length<=1000000:=(by rw[Lp];exact cC);obtain⟨i0,hi,hz0,hz1,hz2⟩:=info_parts infoNamed;go_wp2_with fail
   go_loopw [15,55] (fun v i wr=>∃j:Nat,i = .int .i64 j/\j<=(Cn st.names).length/\Hid (OwnD (fun b=>c'.F b\/w3.heap.size<=b) wr w3.heap.size 75 6 v (Bv ((Cu st.names).take j)))/\Hid (Below w3.heap.size w3 wr)) (fun _ i _=>(Cn st.names).length-(intOf i).toNat)
   case atStart=>exact⟨0,rfl,Nat.zero_le _,Lq7 (OwnD.nil _ _ _ _ _),Lq7 (bRf _ _)⟩
   case round=>
    obtain⟨j,rfl,hj,hown,aC⟩:=hrel;have Hm:=Lq7 (H4.out.1.below aC.out);obtain⟨q0,q1,q2,q3,q4,q5,q6⟩:=Ah Hm.out.head;by_cases hlt:j<(Cn st.names).length
    ·have bN:(Cn st.names)[j]? = some (Cn st.names)[j]:=List.getElem?_eq_getElem hlt;obtain⟨q,hq,cD⟩:=Pb (List.getElem_mem hlt);obtain⟨bK,oK,hak,hck⟩:=(Hst.out.below aC.out) j _ bN;subst hak;have bO:=Pc bN;generalize (Cn st.names)[j]=sn at bN cD hck bO;subst cD;obtain⟨cs,hlk,hag,hlook⟩:=Hm.out.look1 hq;have bP:=Hm.out.few q hq;obtain⟨nm,vk,vn,vs,vl,vks⟩:=q;obtain⟨a1,c1,a2,c2,rfl,hra,hrb⟩:=hag.val;rw[hlk,Option.getD_some] at bO;have Htk:Hid (Bv ((Cu st.names).take (j+1))=Bv ((Cu st.names).take j)++[Ge (nm,.mk vk vn vs vl vks)]):=Lq7 (by rw[List.take_add_one,bO,Jf];rfl);have bQ:(Bv ((Cu st.names).take j)).length=j:=(by rw[Er,List.length_take,Pk];have:(Eo st.names).length=(Cn st.names).length:=(by simp[Cn]);omega);obtain⟨aO,cO,hO,-⟩:=(hown.out.keep (F:=fun b=>c'.F b\/w3.heap.size<=b) (fun _ _ _=>rfl) (nlr _)).rowAt (fun g hg=> .inr (hown.out.block_lt hg).1);rw[bQ] at hO;subst hO;have cE:=Lq7 (Q9 _ bP.1 c'.F a1 c1 a2 c2 wr (fun b hb=>Hm.out.ok.fl b hb) hra hrb);simp only[Vl.kind,Vl.num,Vl.str,Vl.items,Vl.keys] at cE;have HF3:=Lq7 (fun b (hb:c'.F b)=>H4.out.1.ok.fl b hb);go_wp2_with fail;refine cE.out.mono ?_;rintro e w4 ⟨bE,cs4,rfl,bR⟩;obtain⟨x1,y1,x2,y2,rfl,hs1,hs2⟩:=bR.val;have bF:Below w4.heap.size w4 (w4.alloc (.cells #[.string nm,.int .i64 vk,.int .i64 vn,.string vs,.slice x1 vl.length y1,.slice x2 vks.length y2] 75)):=(bRf _ w4).alloc (nlr _) _;have aR:=Lq7 ((hown.out.below bE).below bF);have aU:=Lq7 (aC.out.trans ((bE.trans (bF.mono bE.size)).mono aC.out.size));have aW:=Fe w4 [.string nm,.int .i64 vk,.int .i64 vn,.string vs,.slice x1 vl.length y1,.slice x2 vks.length y2] 75;have aY:=Lq7 aW;have aE:∀b,(c'.F b\/wr.heap.size<=b)->b<w4.heap.size->((c'.F b\/w3.heap.size<=b)/\(Value.slice aO j cO).ownBlock≠some b)/\b<w4.heap.size/\w4.heap[b]? = w4.heap[b]?:=fun b hb hl=>
      ⟨⟨hb.imp id (fun h=>nlt aC.out.size h),fun hg=>by
       have h9:=hown.out.block_lt hg;rcases hb with hb|hb
       ·have:=HF3.out b hb;omega
       ·omega⟩,hl,rfl⟩
     have Hag:Hid (Am (fun b=>(c'.F b\/w3.heap.size<=b)/\(Value.slice aO j cO).ownBlock≠some b) (w4.alloc (.cells #[.string nm,.int .i64 vk,.int .i64 vn,.string vs,.slice x1 vl.length y1,.slice x2 vks.length y2] 75)) (Ge (nm,.mk vk vn vs vl vks)) [.string nm,.int .i64 vk,.int .i64 vn,.string vs,.slice x1 vl.length y1,.slice x2 vks.length y2]):=Lq7 (Am.named_mk nm vk vn vs y1 y2 ((hs1.mono aE).below bF) ((hs2.mono aE).below bF));have hsz4:w3.heap.size<=w4.heap.size:=nlt aC.out.size bE.size;have bS:Hid (∀g,(Value.slice aO j cO).ownBlock=some g->w3.heap.size<=g):=Lq7 (fun g hg=>(hown.out.block_lt hg).1)
     go_wp2_with (at_builtin;refine Bw rfl _ _ 52 rfl w3.heap.size 75 i0 _ 6 96 Tryz.underlying52 hi hz0 hz1 hz2 rfl (by decide) (.slice aO j cO) (fun b=>c'.F b\/w3.heap.size<=b) (Bv ((Cu st.names).take j)) rfl aR.out ⟨w4.heap.size,0,none⟩ 1 (Ge (nm,.mk vk vn vs vl vks)) [.string nm,.int .i64 vk,.int .i64 vn,.string vs,.slice x1 vl.length y1,.slice x2 vks.length y2] rfl rfl aY.out ?_ Hag.out ?_ ?_ ?_ ?_)
     ·simp[Value.oneCell']
     ·rw[bQ];unfold maxLen;omega
     ·rw[bQ];omega
     ·simp;omega
     intro v5 w5 aZ aJ _;have aB:Hid (OwnD (fun b=>c'.F b\/w3.heap.size<=b) w5 w3.heap.size 75 6 v5 (Bv ((Cu st.names).take (j+1)))):=Lq7 (by rw[Htk.out];exact aZ);have bT:Hid (Below w3.heap.size w3 w5):=Lq7 (aU.out.trans (B5 aJ bS.out aU.out.size));obtain⟨aO5,cO5,hO5,-⟩:=aB.out.rowAt (fun g hg=> .inr (aB.out.block_lt hg).1);subst hO5;go_wp2_with fail;go_roundw
     case rel=>exact⟨j+1,by go_num,by omega,aB,bT⟩
     case measure=>simp only[intOf];omega
    ·have hjl:(Cu st.names).take j=Cu st.names:=List.take_of_length_le (by rw[Pk];have:(Eo st.names).length=(Cn st.names).length:=(by simp[Cn]);omega);rw[hjl] at hown;obtain⟨aO,cO,hO,aH⟩:=hown.out.rowAt (fun g hg=> .inr (hown.out.block_lt hg).1);subst hO;have bU:=Lq7 aH;have cF:=Lq7 (stays H4.out.2.1 aC.out);have bV:Hid (w3.heap.size<=wr.heap.size/\w.heap.size<w3.heap.size):=Lq7 ⟨aC.out.size,here H4.out.2.1⟩;have Hmv:=Lq7 (H4.out.2.2.below aC.out);obtain⟨r0,r1,r2,r3,r4⟩:=Av cF.out;go_wp2_with fail;have bA:=Lq7 (((Hmv.out.with (g:=fun b=>w3.heap.size<=b/\b<wr.heap.size) (fun b hb=>by have:=bV.out;omega)).set (.inl (nlr _)) 0 (.int .i64 0)).set (.inl (nlr _)) 1 (.int .i64 0));have bB:((wr.setCell ⟨w.heap.size,0,none⟩ (.int .i64 0)).setCell ⟨w.heap.size,1,none⟩ (.int .i64 0)).heap[w.heap.size]? = some (.cells #[.int .i64 0,.int .i64 0] 28 (0,0)):=(by rw[Ag (Ag cF.out 0 _) 1];rfl);have aM:=Lq7 ((Hm.out.with (g:=fun b=>w3.heap.size<=b/\b<wr.heap.size) (fun b hb=>⟨hb.2,fun h=>by have:=H4.out.1.ok.ml b h;omega⟩)).other (w':=(wr.setCell ⟨w.heap.size,0,none⟩ (.int .i64 0)).setCell ⟨w.heap.size,1,none⟩ (.int .i64 0)) (by simp) (fun b _ hMF=>by
      have hne:b≠w.heap.size:=fun e=>by
       subst e;rcases hMF with h1|h1|h1
       ·exact bI.out.1 h1
       ·exact bI.out.2 h1
       ·have:=bV.out;omega
      rw[Ad hne,Ad hne]))
     have aF:Hid (Af (c'.with (fun b=>w3.heap.size<=b/\b<wr.heap.size)).F ((wr.setCell ⟨w.heap.size,0,none⟩ (.int .i64 0)).setCell ⟨w.heap.size,1,none⟩ (.int .i64 0)) aO (Bv (Cu st.names))):=Lq7 (bU.out.mono fun b hb hl=>by
      have hne:b≠w.heap.size:=fun e=>by
       subst e;rcases hb with h1|h1
       ·exact bI.out.2 h1
       ·have:=bV.out;omega
      exact⟨hb.imp id (fun h=>⟨h,hl⟩),by simpa using hl,by rw[Ad hne,Ad hne]⟩)
     generalize World.setCell _ _ _=W6 at bA bB aM aF |-;obtain⟨p0,p1,p2,p3,p4⟩:=Av bB;refine bodyPost_ret (v:=.tuple #[.slice aO (Bv (Cu st.names)).length cO,.int .i64 0,.agg #[.int .i64 0,.int .i64 0]]) (by simp[results,Tryz.results19,go_sem,p1,p2]) rfl ?_;rw[aG.out];obtain⟨own',ho,hh⟩:=aM.out.host;exact⟨_,bA.out,⟨own',fun b hb=>(ho b hb).1,hh⟩,cC,aM.out.few,aO,cO,by rw[Er],aF.out⟩
end Go.Proofs.YtbcdimjbepigcaaGreatDoor