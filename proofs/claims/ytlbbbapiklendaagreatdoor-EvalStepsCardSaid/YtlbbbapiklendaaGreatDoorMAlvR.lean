/-
  The statements' example,read. (And what it stands on.)
-/
import Derived.Test.YtlbbbapiklendaaGreatDoorMAlvT
import Derived.Test.YtlbbbapiklendaaGreatDoorMCopyE
import Derived.Test.YtlbbbapiklendaaGreatDoorMKeysB
import Derived.Test.YtlbbbapiklendaaGreatDoorMOwnLow
import Derived.Test.YtlbbbapiklendaaGreatDoorIter
import Derived.Test.YtlbbbapiklendaaGreatDoorMParseX
namespace Go.Proofs.YtlbbbapiklendaaGreatDoor
open Go.IntKind renaming i64->B
open Go.Value renaming int->A,string->H,slice->C
open Go.Obj renaming cells->E
open Go Go.RowKit Go.Maps
open Nat renaming le_refl->nlr,le_trans->nlt
open Go.Lib renaming hid->Lq7
open And renaming intro->aIn
open Go.RowKit.Below renaming refl->bRf
set_option maxRecDepth 100000
set_option maxHeartbeats 16000000
def PRunN(own F:Nat->Prop)(hv:D5)(r:ER Unit)(w:World)(e:Ending)(w':World):Prop:=∃c',Mv ⟨own,F⟩ w c' w'/\match r with
 | .ok _ st=>(∃own':Nat->Prop,(∀b,own' b->c'.M b)/\hv.At own' c'.F w' st.log)/\st.names.length<=1000000/\(∀q∈st.names,Ao q.2=true/\q.1.size<=maxLen)/\∃a cap,e = .returned (.tuple #[C a (C3 st.names).length cap,A B 0,.agg #[A B 0,A B 0]])/\Af c'.F w' a (Bf (C3 st.names))
 | .err x l k=>e = .returned (.tuple #[C none 0 0,A B x,.agg #[A B l,A B k]])
 | .out=>True
theorem infoNamed:(Tryz.prog.info? 55).map (fun i=>(i.zero,i.size,i.bytes))=some (some (.agg #[H ByteArray.empty,A B 0,A B 0,H ByteArray.empty,C none 0 0,C none 0 0]),6,96):=by kernel_rfl
theorem ms_startK{own F}(w o hv n)(hn:n<=1000000 /\ -1<=n)(hok:(⟨own,F⟩:Ctx).Ok w)(hat:hv.At own F w []):
  MS ⟨fun b=>own b\/b=w.heap.size+1\/b=w.heap.size+1+1,F⟩ (((w.alloc o).alloc (.map #[] 0)).alloc (E #[.map (some (w.heap.size+1)),hv.val,A B n] 73)) (w.heap.size+1+1) (w.heap.size+1) hv ⟨[],n,[]⟩:=by
 obtain⟨h1,h2,h3,h4,h5⟩:=Gx w o (.map #[] 0) (E #[.map (some (w.heap.size+1)),hv.val,A B n] 73);refine⟨⟨fun b hb=>?_,fun b hb=>?_,fun b hb h=>?_⟩,h3,.inr (.inr rfl),.inr (.inl rfl),⟨[],⟨#[],0,h2,Go.MapKept.stamped_empty 0,rfl⟩,rfl,fun j p q h=>by simp at h⟩,List.nodup_nil,hn,fun q hq=>(by cases hq),own,fun b hb=>⟨.inl hb,?_,?_⟩,hv.stab hat (fun _ h=>h) h4.size (fun b _ hl=>h4.block b hl)⟩
 ·rw[h5];rcases hb with hb|rfl|rfl
  ·have:=hok.ml b hb;omega
  ·omega
  ·omega
 ·have:=hok.fl b hb;omega
 ·have:=hok.fl b hb;rcases h with h|h|h
  ·exact hok.apart b hb h
  ·omega
  ·omega
 ·have:=hok.ml b hb;omega
 ·have:=hok.ml b hb;omega
theorem Vv{hv}{fn:Nat}{rv}(hop:OpC)(hdo:∀mp mb,Pn fn rv mp mb hv)(hin:HInv fn rv hv)(ha:Mc hv.ans)(own F)(f:Nat)(G l a)(cap:Nat)(n)(w:World)(hok:(⟨own,F⟩:Ctx).Ok w)(te pe)(hvi:hv.val = .iface te pe)(hat:hv.At own F w [])(hGo:∀b,G b->¬own b)(hn:n<=1000000 /\ -1<=n)(hG:∀b,G b->b<w.heap.size)(hr:Af G w a (Au l))(hsn:smallNs l)(hlen:l.length<=1000000)(hne:G0 hv.ans f l n ≠ .out)(hfl:∀st,G0 hv.ans f l n = .ok () st->st.names.length<=1000000):
  Calls Tryz.prog 7 #[C a l.length cap,C none 0 0,.iface te pe,A B n] w (PRunN own F hv (G0 hv.ans f l n) w):=by
 have hmm:=@run_makeMap Tryz.prog;obtain⟨h1,h2,h3,h4,h5⟩:=Gx w (E #[A B 0,A B 0] 24) (.map #[] 0) (E #[.map (some (w.heap.size+1)),.iface te pe,A B n] 73);have H0:=Lq7 (aIn (hvi▸ms_startK w (E #[A B 0,A B 0] 24) hv n hn hok hat) (aIn h1 (aIn (hr.below h4) h4)));have hM0:Mv ⟨own,F⟩ w ⟨fun b=>own b\/b=w.heap.size+1\/b=w.heap.size+1+1,F⟩ (((w.alloc (E #[A B 0,A B 0] 24)).alloc (.map #[] 0)).alloc (E #[.map (some (w.heap.size+1)),.iface te pe,A B n] 73)):=
  ⟨h4.os,h4.tape,h4.output,h4.size,fun b hb _=>h4.block b hb,fun b hb=>by
   rcases hb with hb|rfl|rfl
   ·exact .inl hb
   ·exact .inr (by omega)
   ·exact .inr (by omega),fun b hb=> .inl hb⟩
 have bW:=Lq7 hM0;have bE:Hid (¬(own w.heap.size\/w.heap.size=w.heap.size+1\/w.heap.size=w.heap.size+1+1)/\¬F w.heap.size):=Lq7 ⟨fun h=>by
  rcases h with h|h|h
  ·exact absurd (hok.ml _ h) (Nat.lt_irrefl _)
  ·omega
  ·omega,fun h=>absurd (hok.fl _ h) (Nat.lt_irrefl _)⟩
 have Hop:=Lq7 hop;have Hdo:=Lq7 hdo;have Hin:=Lq7 hin;have bG:=Lq7 ha;have HGo:=Lq7 hGo;have bX:=Lq7 hne;have Hfl:=Lq7 hfl;have Hsn:=Lq7 hsn;have HG:=Lq7 hG;go_enter Tryz.func7,Tryz.ntmps7;go_wp2_with fail;generalize World.alloc _ _=W0 at H0 bW |-
 go_loopw [25] (fun i wr=>i = A B 0/\wr=W0) (fun _ _=>0)
 case atStart=>exact⟨rfl,rfl⟩
 case round=>
  obtain⟨rfl,hwr⟩:=hrel;subst hwr;have Hc:=Lq7 (Wm (mp:=w.heap.size+1+1) (mb:=w.heap.size+1) (hv:=hv) (ENz.stmts bG.out f) (Pk Hop.out (Hdo.out _ _) Hin.out bG.out f) G _ wr _ l a cap H0.out.1 (fun b hb=>⟨by have:=HG.out b hb;have:=H0.out.2.2.2.size;omega,fun h=>by
   have:=HG.out b hb;rcases h with h|h|h
   ·exact HGo.out b hb h
   ·omega
   ·omega⟩) H0.out.2.2.1 Hsn.out hlen bX.out)
  unfold ptr at Hc;go_wp2_with fail;refine Hc.out.mono ?_;rintro e w1 ⟨c',bA,hq⟩;have hpl:w1.heap[w.heap.size]? = some (E #[A B 0,A B 0] 24 (0,0)):=(bA.block _ (here H0.out.2.1) bE.out.1).trans H0.out.2.1;have hmw:=bW.out.trans bA;have hpo:¬c'.M w.heap.size/\¬c'.F w.heap.size:=⟨fun h=>by
   rcases bA.m _ h with h1|h1
   ·exact bE.out.1 h1
   ·have:=here H0.out.2.1;omega,fun h=>by
   rcases bA.f _ h with h1|h1
   ·exact bE.out.2 h1
   ·have:=here H0.out.2.1;omega⟩
  have H1:=Lq7 (aIn hpl hmw);have bH:=Lq7 hpo;have bB:G0 hv.ans f l n=Cn (Dr hv.ans f) l ⟨[],n,[]⟩:=rfl;cases hres:Cn (Dr hv.ans f) l ⟨[],n,[]⟩ with
  | out=>exact absurd (bB.trans hres) bX.out
  | err x y z=>
   rw[hres] at hq;obtain rfl:=hq;have hxz:=ENz.block (ENz.stmts bG.out f) l _ _ _ _ hres;have hxz':(x==0)=false:=(by simpa using hxz);have aF:=Lq7 (bB.trans hres);unfold Bo
   go_upto_region 9 with fail
   have bY:Below w1.heap.size w1 (w1.alloc (E #[A B x,A B y,A B z] 75)):=(bRf _ w1).alloc (nlr _) _;have H2:=Lq7 (aIn (stays H1.out.1 bY) (aIn (heap_alloc_new w1 (E #[A B x,A B y,A B z] 75)) (H1.out.2.below bY)));have hfb:w.heap.size<w1.heap.size:=here H1.out.1;generalize World.alloc _ _=W at H2 |-;generalize w1.heap.size=fb at H2 hfb |-;refine Ba (.s 0 (.s 1 (.s 2 (.s 3 (.s 4 (.s 5 (.h 6 .nil))))))) 6 (fun W'=>W'.heap[fb]? = some (E #[A B x,A B y,A B z] 75 (0,0))) H2.out.2.1 ?_;have bZ:Below W.heap.size W W.drew:=(bRf _ W).drew;have H3:=Lq7 (aIn (stays H2.out.1 bZ) (H2.out.2.2.below bZ));generalize W.drew=Wd at H3 |-;refine Ag (.pointer (some ⟨fb,0,none⟩)) ?_;refine A8 (A B x) ?_;refine Ag (.pointer (some ⟨fb,1,none⟩)) ?_;refine A8 (.agg #[A B y,A B z]) ?_;refine Ag (C none 0 0) ?_;refine Ag (A B x) ?_;obtain⟨q0,q1,q2,q3,q4⟩:=Bc H3.out.1;refine Ad rfl (fun Kx hKx=>?_);go_wp2_with fail;have H4:=Lq7 ((H3.out.2.set (.inl (nlr _)) 0 (A B y)).set (.inl (nlr _)) 1 (A B z));have h5:((Wd.setCell ⟨w.heap.size,0,none⟩ (A B y)).setCell ⟨w.heap.size,1,none⟩ (A B z)).heap[w.heap.size]? = some (E #[A B y,A B z] 24 (0,0)):=(by rw[Al (Al H3.out.1 0 _) 1];rfl);refine hKx _ _ (fun h=>absurd rfl h) ?_;generalize World.setCell _ _ _=W5 at H4 h5 |-;refine Ay ?_;(try simp only[gX,Act.put]);obtain⟨q0,q1,q2,q3,q4⟩:=Bc h5;go_wp2_with fail;refine bodyPost_ret (v:=.tuple #[C none 0 0,A B x,.agg #[A B y,A B z]]) (by simp[results,Tryz.results7,go_sem,q1,q2]) rfl ?_;rw[aF.out];exact⟨c',H4.out,rfl⟩
  | ok u st=>
   rw[hres] at hq;obtain⟨hms,v,rfl,hv⟩:=hq;obtain rfl:v=Bo 0 0 0:=hv;have aF:=Lq7 (bB.trans hres);have Hfl':=Lq7 (Hfl.out st (bB.trans hres));have cA:=Lq7 hms;unfold Bo;have bI:Below w1.heap.size w1 (w1.alloc (E #[A B 0,A B 0,A B 0] 75)):=(bRf _ w1).alloc (nlr _) _;have H2:=Lq7 (aIn (cA.out.below bI) (aIn (stays H1.out.1 bI) (H1.out.2.below bI)));obtain⟨q0,q1,q2,q3,q4,q5,q6⟩:=Bx cA.out.head;go_wp2_with fail;generalize World.alloc _ _=W at H2 |-;have cC:=Hfl'.out;obtain⟨D,hown,aM,aC⟩:=H2.out.1.owns (by omega);refine((callsIn_wide (n:=5)).1 (Tryz.maps_Keys_22 (some (w.heap.size+1)) W)).mono ?_;rintro e w2 ⟨rfl,hw2⟩;subst hw2;have HS:=Lq7 ((callsIn_wide (n:=5)).1 (Tryz.slices_Sorted_keys_21_22 (w.heap.size+1) _ D anyElem W hown (by rw[aC];unfold maxLen;omega) (by rw[aC];omega)));have aN:=Lq7 aM;have bJ:Below W.heap.size W (W.alloc (E #[.map (some (w.heap.size+1))] 71)):=(bRf _ W).alloc (nlr _) _;have H3:=Lq7 (aIn (H2.out.1.below bJ) (aIn (stays H2.out.2.1 bJ) (H2.out.2.2.below bJ)));go_wp2_with fail;refine HS.out.mono ?_;rintro e w3 ⟨v,ss,rfl,hS,aG,-,bL⟩;have hK:=Rh (hS.trans aN.out) aG;obtain⟨aK,cK,rfl,hst,-⟩:=hK.strsAt;have Hst:=Lq7 hst;have H4:=Lq7 (aIn (H3.out.1.below bL) (aIn (stays H3.out.2.1 bL) (H3.out.2.2.below bL)));have hkl:(Cw st.names).length<=1000000:=(by rw[Nj];exact cC);obtain⟨i0,hi,hz0,hz1,hz2⟩:=info_parts infoNamed;go_wp2_with fail
   go_loopw [15,55] (fun v i wr=>∃j:Nat,i = A B j/\j<=(Cw st.names).length/\Hid (OwnD (fun b=>c'.F b\/w3.heap.size<=b) wr w3.heap.size 55 6 v (Bf ((C3 st.names).take j)))/\Hid (Below w3.heap.size w3 wr)) (fun _ i _=>(Cw st.names).length-(intOf i).toNat)
   case atStart=>exact⟨0,rfl,Nat.zero_le _,Lq7 (OwnD.nil _ _ _ _ _),Lq7 (bRf _ _)⟩
   case round=>
    obtain⟨j,rfl,hj,hown,aB⟩:=hrel;have Hm:=Lq7 (H4.out.1.below aB.out);obtain⟨q0,q1,q2,q3,q4,q5,q6⟩:=Bx Hm.out.head;by_cases hlt:j<(Cw st.names).length
    ·have bM:(Cw st.names)[j]? = some (Cw st.names)[j]:=List.getElem?_eq_getElem hlt;obtain⟨q,hq,cD⟩:=Rf (List.getElem_mem hlt);obtain⟨bK,oK,hak,hck⟩:=(Hst.out.below aB.out) j _ bM;subst hak;have bN:=Rg bM;generalize (Cw st.names)[j]=sn at bM cD hck bN;subst cD;obtain⟨cs,hlk,hag,hlook⟩:=Hm.out.look1 hq;have bO:=Hm.out.few q hq;obtain⟨nm,vk,vn,vs,vl,vks⟩:=q;obtain⟨a1,c1,a2,c2,rfl,hra,hrb⟩:=hag.val;rw[hlk,Option.getD_some] at bN;have Htk:Hid (Bf ((C3 st.names).take (j+1))=Bf ((C3 st.names).take j)++[Ik (nm,.mk vk vn vs vl vks)]):=Lq7 (by rw[List.take_add_one,bN,Ke];rfl);have bP:(Bf ((C3 st.names).take j)).length=j:=(by rw[Iy,List.length_take,Ro];have:(sortKeys st.names).length=(Cw st.names).length:=(by simp[Cw]);omega);obtain⟨aO,cO,hO,-⟩:=(hown.out.keep (F:=fun b=>c'.F b\/w3.heap.size<=b) (fun _ _ _=>rfl) (nlr _)).rowAt (fun g hg=> .inr (hown.out.block_lt hg).1);rw[bP] at hO;subst hO;have cE:=Lq7 (T9 _ bO.1 c'.F a1 c1 a2 c2 wr (fun b hb=>Hm.out.ok.fl b hb) hra hrb);simp only[Vl.kind,Vl.num,Vl.str,Vl.items,Vl.keys] at cE;have HF3:=Lq7 (fun b (hb:c'.F b)=>H4.out.1.ok.fl b hb);go_wp2_with fail;refine cE.out.mono ?_;rintro e w4 ⟨bC,cs4,rfl,bQ⟩;obtain⟨x1,y1,x2,y2,rfl,hs1,hs2⟩:=bQ.val;have bD:Below w4.heap.size w4 (w4.alloc (E #[H nm,A B vk,A B vn,H vs,C x1 vl.length y1,C x2 vks.length y2] 55)):=(bRf _ w4).alloc (nlr _) _;have aQ:=Lq7 ((hown.out.below bC).below bD);have aR:=Lq7 (aB.out.trans ((bC.trans (bD.mono bC.size)).mono aB.out.size));have aU:=Kc w4 [H nm,A B vk,A B vn,H vs,C x1 vl.length y1,C x2 vks.length y2] 55;have aV:=Lq7 aU;have aD:∀b,(c'.F b\/wr.heap.size<=b)->b<w4.heap.size->((c'.F b\/w3.heap.size<=b)/\(Value.slice aO j cO).ownBlock≠some b)/\b<w4.heap.size/\w4.heap[b]? = w4.heap[b]?:=fun b hb hl=>
      ⟨⟨hb.imp id (fun h=>nlt aB.out.size h),fun hg=>by
       have h9:=hown.out.block_lt hg;rcases hb with hb|hb
       ·have:=HF3.out b hb;omega
       ·omega⟩,hl,rfl⟩
     have Hag:Hid (Ax (fun b=>(c'.F b\/w3.heap.size<=b)/\(Value.slice aO j cO).ownBlock≠some b) (w4.alloc (E #[H nm,A B vk,A B vn,H vs,C x1 vl.length y1,C x2 vks.length y2] 55)) (Ik (nm,.mk vk vn vs vl vks)) [H nm,A B vk,A B vn,H vs,C x1 vl.length y1,C x2 vks.length y2]):=Lq7 (Ax.named_mk nm vk vn vs y1 y2 ((hs1.mono aD).below bD) ((hs2.mono aD).below bD));have hsz4:w3.heap.size<=w4.heap.size:=nlt aB.out.size bC.size;have bR:Hid (∀g,(Value.slice aO j cO).ownBlock=some g->w3.heap.size<=g):=Lq7 (fun g hg=>(hown.out.block_lt hg).1)
     go_wp2_with (at_builtin;refine Dg rfl _ _ 31 rfl w3.heap.size 55 i0 _ 6 96 Tryz.underlying31 hi hz0 hz1 hz2 rfl (by decide) (C aO j cO) (fun b=>c'.F b\/w3.heap.size<=b) (Bf ((C3 st.names).take j)) rfl aQ.out ⟨w4.heap.size,0,none⟩ 1 (Ik (nm,.mk vk vn vs vl vks)) [H nm,A B vk,A B vn,H vs,C x1 vl.length y1,C x2 vks.length y2] rfl rfl aV.out ?_ Hag.out ?_ ?_ ?_ ?_)
     ·simp[Value.oneCell']
     ·rw[bP];unfold maxLen;omega
     ·rw[bP];omega
     ·simp;omega
     intro v5 w5 aW aH _;have aA:Hid (OwnD (fun b=>c'.F b\/w3.heap.size<=b) w5 w3.heap.size 55 6 v5 (Bf ((C3 st.names).take (j+1)))):=Lq7 (by rw[Htk.out];exact aW);have bS:Hid (Below w3.heap.size w3 w5):=Lq7 (aR.out.trans (C1 aH bR.out aR.out.size));obtain⟨aO5,cO5,hO5,-⟩:=aA.out.rowAt (fun g hg=> .inr (aA.out.block_lt hg).1);subst hO5;go_wp2_with fail;go_roundw
     case rel=>exact⟨j+1,by go_num,by omega,aA,bS⟩
     case measure=>simp only[intOf];omega
    ·have hjl:(C3 st.names).take j=C3 st.names:=List.take_of_length_le (by rw[Ro];have:(sortKeys st.names).length=(Cw st.names).length:=(by simp[Cw]);omega);rw[hjl] at hown;obtain⟨aO,cO,hO,aG⟩:=hown.out.rowAt (fun g hg=> .inr (hown.out.block_lt hg).1);subst hO;have bT:=Lq7 aG;have cF:=Lq7 (stays H4.out.2.1 aB.out);have bU:Hid (w3.heap.size<=wr.heap.size/\w.heap.size<w3.heap.size):=Lq7 ⟨aB.out.size,here H4.out.2.1⟩;have Hmv:=Lq7 (H4.out.2.2.below aB.out);obtain⟨r0,r1,r2,r3,r4⟩:=Bc cF.out;go_wp2_with fail;have aY:=Lq7 (((Hmv.out.with (g:=fun b=>w3.heap.size<=b/\b<wr.heap.size) (fun b hb=>by have:=bU.out;omega)).set (.inl (nlr _)) 0 (A B 0)).set (.inl (nlr _)) 1 (A B 0));have aZ:((wr.setCell ⟨w.heap.size,0,none⟩ (A B 0)).setCell ⟨w.heap.size,1,none⟩ (A B 0)).heap[w.heap.size]? = some (E #[A B 0,A B 0] 24 (0,0)):=(by rw[Al (Al cF.out 0 _) 1];rfl);have aJ:=Lq7 ((Hm.out.with (g:=fun b=>w3.heap.size<=b/\b<wr.heap.size) (fun b hb=>⟨hb.2,fun h=>by have:=H4.out.1.ok.ml b h;omega⟩)).other (w':=(wr.setCell ⟨w.heap.size,0,none⟩ (A B 0)).setCell ⟨w.heap.size,1,none⟩ (A B 0)) (by simp) (fun b _ hMF=>by
      have hne:b≠w.heap.size:=fun e=>by
       subst e;rcases hMF with h1|h1|h1
       ·exact bH.out.1 h1
       ·exact bH.out.2 h1
       ·have:=bU.out;omega
      rw[Ae hne,Ae hne]))
     have aE:Hid (Af (c'.with (fun b=>w3.heap.size<=b/\b<wr.heap.size)).F ((wr.setCell ⟨w.heap.size,0,none⟩ (A B 0)).setCell ⟨w.heap.size,1,none⟩ (A B 0)) aO (Bf (C3 st.names))):=Lq7 (bT.out.mono fun b hb hl=>by
      have hne:b≠w.heap.size:=fun e=>by
       subst e;rcases hb with h1|h1
       ·exact bH.out.2 h1
       ·have:=bU.out;omega
      exact⟨hb.imp id (fun h=>⟨h,hl⟩),by simpa using hl,by rw[Ae hne,Ae hne]⟩)
     generalize World.setCell _ _ _=W6 at aY aZ aJ aE |-;obtain⟨p0,p1,p2,p3,p4⟩:=Bc aZ;refine bodyPost_ret (v:=.tuple #[C aO (Bf (C3 st.names)).length cO,A B 0,.agg #[A B 0,A B 0]]) (by simp[results,Tryz.results7,go_sem,p1,p2]) rfl ?_;rw[aF.out];obtain⟨own',ho,hh⟩:=aJ.out.host;exact⟨_,aY.out,⟨own',fun b hb=>(ho b hb).1,hh⟩,cC,aJ.out.few,aO,cO,by rw[Iy],aE.out⟩
end Go.Proofs.YtlbbbapiklendaaGreatDoor
namespace Go.Proofs.YtlbbbapiklendaaGreatDoor
open Go.IntKind renaming i64->B
open Go.Value renaming int->A,string->H,slice->C
open Go.Obj renaming cells->E
open Go Go.RowKit
def plainV:Value:=.iface 83 (.agg #[])
theorem V1(w):Calls Tryz.prog 8 #[] w (fun e w'=>e = .returned plainV/\Below w.heap.size w w'):=by
 go_enter Tryz.func8,Tryz.ntmps8;go_wp2_with fail;exact bodyPost_ret (v:=plainV) (by simp[plainV,results,Tryz.results8,go_sem]) rfl ⟨rfl,Below.refl _ _⟩
theorem alive_sort:C3 [(⟨#[120]⟩,intV 6),(⟨#[105]⟩,intV 3)]=[(⟨#[105]⟩,intV 3),(⟨#[120]⟩,intV 6)]:=by
 have h:sortKeys [(⟨#[120]⟩,intV 6),(⟨#[105]⟩,intV 3)]=[[105],[120]]:=by
  unfold sortKeys;have hp:([[120],[105]]:List (List UInt8)).Perm [[105],[120]]:=List.Perm.swap _ _ _;have h2:([[120],[105]]:List (List UInt8)).mergeSort leB=[[105],[120]]:=by
   rw[mergeSort_of_perm hp];exact List.mergeSort_of_pairwise (by decide)
  exact h2
 unfold C3;rw[h];rfl
theorem alive_ne:readL aliveText.data.toList≠none:=by rw[alive_read];exact fun h=>by cases h
theorem Y6(w)(hw:Lg w):Calls Tryz.prog 6 #[H ⟨#[120,32,61,32,49,59,32,102,111,114,32,105,32,105,110,32,91,50,44,32,51,93,32,123,32,120,32,61,32,120,32,43,32,105,59,32,125]⟩] w
  (fun e w'=>Below w.heap.size w w'/\∃a cap,e = .returned (.tuple #[.agg #[A B 1,H ⟨#[]⟩,A B 1,A B 1,C a 2 cap],A B 0,.agg #[A B 0,A B 0]])/\Af (fun b=>w.heap.size<=b) w' a (Au aliveKids)):=by
 have h:=Mr aliveText w (show(37:Nat)<=_ by decide) hw alive_ne;refine h.mono ?_;intro e w' hq;unfold PRead at hq;rw[alive_read] at hq;obtain⟨hb,v,rfl,hv⟩:=hq;obtain⟨a,cap,rfl,hr⟩:=hv.open;exact⟨hb,a,cap,rfl,hr⟩
end Go.Proofs.YtlbbbapiklendaaGreatDoor
