/-
  The walks of path.cut,Dir's part and Base:a path's directory and its last part. (And what it stands on.)
-/
import Derived.Shelf.Abstract
import Derived.Shelf.RegionOpen
import Derived.OwnWalkIn
import Derived.TacticsInMore
import Derived.LoopNIn
import Derived.LoopIn
import Derived.Lib.IndexMore
import Derived.Lib.Strings
import Derived.Lib.Bytealg
import Derived.Lib.LastIndexByte
import Derived.Test.YtlbbbapiklendaaGreatDoorMRawMap
import Derived.Test.YtlbbbapiklendaaGreatDoorCut
import Derived.Test.YtlbbbapiklendaaGreatDoorShelf
import Derived.Test.YtlbbbapiklendaaGreatDoorMPathPart
namespace Go.Proofs.YtlbbbapiklendaaGreatDoor
open Go.Value renaming string->F,pointer->H
open Option renaming some->G,none->E
open Go Go.RowKit Go.Shelf
open Go.Lib renaming hid->Lq7
set_option maxRecDepth 100000
set_option maxHeartbeats 16000000
attribute [local go_sem] Oper.semAt_some
def M0(w:World)(s sep:ByteArray):World:=((w.alloc (.cells #[F s] 9)).alloc (.cells #[F sep] 9)).alloc (.cells #[.int .i64 0] 3)
theorem Ti(s sep w):
  Calls Tryz.prog 293 #[F s,F sep] w fun e w'=>e = .returned (.func (.func 303) #[] #[H (G ⟨w.heap.size+1,0,E⟩),H (G ⟨w.heap.size,0,E⟩),H (G ⟨w.heap.size+2,0,E⟩)])/\w'=M0 w s sep:=by
 go_enter Tryz.func293,Tryz.ntmps293;go_wp2;go_ret;exact⟨rfl,rfl⟩
def SeqAb(B:Nat)(A A':World):Prop:=∃v,A'=A.setCell ⟨B,0,E⟩ v
def Qm(B:Nat)(A A':World):Prop:=∀k,k<B+3->B<=k->A'.heap[k]? = A.heap[k]?
def Vw(c:UInt8)(s:ByteArray)(pre:List ByteArray)(x:ByteArray):Prop:=((pre++[x]).map (·.data.toList)) <+:Bh c s.data.toList
theorem Qm.cell{B A A'}(h:Qm B A A'){k}(h1:k<B+3)(h2:B<=k):A'.cell? ⟨k,0,E⟩=A.cell? ⟨k,0,E⟩:=World.cell?_of_block (h k h1 h2)
theorem Qm.frozen{B A A'}(h:Qm B A A'){k}(h1:k<B+3)(h2:B<=k):A'.frozen? ⟨k,0,E⟩=A.frozen? ⟨k,0,E⟩:=World.frozen?_of_block (h k h1 h2)
def Tj(W:World)(B:Nat):Nat:=match W.cell? ⟨B,0,E⟩ with|some (F s)=>s.size|_=>0
theorem Sd{W B s}(h:W.cell? ⟨B,0,E⟩=G (F s)):Tj W B=s.size:=by unfold Tj;rw[h]
theorem Q2(B s c W)(hs:s.size<=9223372036854775807)(h0:W.cell? ⟨B,0,E⟩=G (F s))(hf:W.frozen? ⟨B,0,E⟩=false)(h1:W.cell? ⟨B+1,0,E⟩=G (F ⟨#[c]⟩))(h2:W.cell? ⟨B+2,0,E⟩=G (.int .i64 0)):
  Yz Tryz.prog 303 #[H (G ⟨B+1,0,E⟩),H (G ⟨B,0,E⟩),H (G ⟨B+2,0,E⟩)] (fun x:ByteArray=>#[F x]) (SeqAb B) (Qm B) (Vw c s)
   (fun xs=>xs.map (·.data.toList)=Bh c s.data.toList) (fun pre=>pre.map (·.data.toList) <+:Bh c s.data.toList) W:=by
 intro l J Jx hJ hJx hY hJ0;refine callsIn_of_wp Tryz.func303 rfl trivial ?_ rfl;simp only[Tryz.ntmps303,List.size_toArray,List.length_cons,List.length_nil,Nat.reduceAdd,Nat.reduceSub,Array.replicate_succ,Array.replicate_zero,List.push_toArray,List.append_toArray,List.nil_append,List.cons_append]
 gi_wp2
 gi_loopw [7,8] (fun _ _ wr=>∃(pre:List ByteArray) (cur:ByteArray),wr.cell? ⟨B,0,E⟩=G (F cur)/\wr.frozen? ⟨B,0,E⟩=false/\wr.cell? ⟨B+1,0,E⟩=G (F ⟨#[c]⟩)/\wr.cell? ⟨B+2,0,E⟩=G (.int .i64 0) /\
   cur.size<=9223372036854775807/\Hid (pre.map (·.data.toList)++Bh c cur.data.toList=Bh c s.data.toList)/\J pre wr)
  (fun _ _ wr=>Tj wr B)
 case atStart=>exact⟨[],s,h0,hf,h1,h2,hs,rfl,hJ0⟩
 case round=>
  obtain⟨pre,cur,h0,hf,h1,h2,hs,hcut,aF⟩:=hrel;have hge:=Lib.indexByte_ge cur.data.toList c;by_cases hm:Lib.indexByte cur.data.toList c<0
  ·have aA:Hid (Bh c cur.data.toList=[cur.data.toList]):=Lq7 (J9 (by omega));obtain⟨fn,tmps,assign,body,hy,hR⟩:=hY pre cur wr aF (by unfold Vw;rw[<-hcut.out,aA.out,List.map_append];exact List.prefix_refl _);have HR:=Lq7 hR
   gi_wp2_with fail
   refine⟨trivial,rfl,?_⟩;refine(callsIn_wide.2 (Tryz.strings_Index_one cur c _)).mono ?_;rintro e w' ⟨rfl,rfl⟩
   gi_wp2_with fail
   refine⟨rfl,?_⟩;refine HR.out.mono ?_;have aC:Hid ((pre++[cur]).map (·.data.toList)=Bh c s.data.toList):=Lq7 (by rw[<-hcut.out,aA.out,List.map_append];rfl);rintro e W' (⟨rfl,hJ',hk⟩|⟨rfl,hJx'⟩)
   ·gi_wp2
    go_end0
    exact⟨⟨_,rfl⟩,.inl ⟨_,aC.out,hJ'⟩⟩
   ·gi_wp2
    go_end0
    exact⟨⟨_,rfl⟩,.inr ⟨_,by rw[aC.out];exact List.prefix_refl _,hJx'⟩⟩
  ·obtain⟨k,hk⟩:∃k:Nat,Lib.indexByte cur.data.toList c=k:=⟨(Lib.indexByte cur.data.toList c).toNat,by omega⟩;have Hk:=Lq7 hk;have hkl:k<cur.size:=(by have:=(indexByte_hit Hk.out).1;rw[Ai] at this;exact this);have aD:Hid (Bh c cur.data.toList=(cur.extract 0 k).data.toList::Bh c (cur.extract (k+1) cur.size).data.toList):=Lq7 (by
    rw[Ol Hk.out,I5,Lib.extract_data,List.drop_zero,Nat.sub_zero])
   obtain⟨fn,tmps,assign,body,hy,hR⟩:=hY pre (cur.extract 0 k) wr aF (by unfold Vw;rw[<-hcut.out,aD.out,List.map_append,List.append_cons];exact List.prefix_append _ _);have HR:=Lq7 hR
   gi_wp2_with fail
   refine⟨trivial,rfl,?_⟩;refine(callsIn_wide.2 (Tryz.strings_Index_one cur c _)).mono ?_;rintro e w' ⟨rfl,rfl⟩;rw[Hk.out]
   gi_wp2_with fail
   refine⟨rfl,?_⟩;have hk0:decide ((k:Int)<0)=false:=(by simp);have aB:Hid ((pre++[cur.extract 0 k]).map (·.data.toList)++Bh c (cur.extract (k+1) cur.size).data.toList=Bh c s.data.toList):=Lq7 (by
    rw[<-hcut.out,aD.out,List.map_append,List.append_assoc];rfl)
   refine HR.out.mono ?_;rintro e W' (⟨rfl,hJ',aE⟩|⟨rfl,hJx'⟩)
   ·have c0:=(aE.cell (k:=B) (by omega) (by omega)).trans h0;have f0:=(aE.frozen (k:=B) (by omega) (by omega)).trans hf;have c1:=(aE.cell (k:=B+1) (by omega) (by omega)).trans h1;have c2:=(aE.cell (k:=B+2) (by omega) (by omega)).trans h2;have HL:Hid (Tj w' B=cur.size):=Lq7 (Sd h0);have hJ'':=hJ _ _ _ hJ' ⟨F (cur.extract (k+1) cur.size),rfl⟩;have B0:(W'.setCell ⟨B,0,E⟩ (F (cur.extract (k+1) cur.size))).cell? ⟨B,0,E⟩=G (F (cur.extract (k+1) cur.size)):=(by go_simp);have B1:(W'.setCell ⟨B,0,E⟩ (F (cur.extract (k+1) cur.size))).cell? ⟨B+1,0,E⟩=G (F ⟨#[c]⟩):=(by go_simp);have B2:(W'.setCell ⟨B,0,E⟩ (F (cur.extract (k+1) cur.size))).cell? ⟨B+2,0,E⟩=G (.int .i64 0):=(by go_simp);have F0:(W'.setCell ⟨B,0,E⟩ (F (cur.extract (k+1) cur.size))).frozen? ⟨B,0,E⟩=false:=(by go_simp);have HB:=Lq7 (And.intro B0 (And.intro F0 (And.intro B1 B2)))
    gi_wp2
    exact⟨⟨pre++[cur.extract 0 k],_,HB.out.1,HB.out.2.1,HB.out.2.2.1,HB.out.2.2.2,by rw[ByteArray.size_extract];omega,aB,hJ''⟩,by rw[Sd HB.out.1,HL.out,ByteArray.size_extract];omega⟩
   ·gi_wp2
    refine bodyPost_ret (results_none rfl _ _ _) rfl ?_;exact⟨⟨_,rfl⟩,.inr ⟨_,by rw[<-aB.out];exact List.prefix_append _ _,hJx'⟩⟩
attribute [local go_sem] Oper.semAt_some
def Ea(l:List UInt8):Bool:=decide ((Bh 47 l).length<=16)&&(Bh 47 l).all Gj
theorem Gu{A:World}{k:Nat}{o:Obj}{a:Addr}(h:a.block≠k):(A.putObj k o).cell? a=A.cell? a:=World.cell?_of_block (World.putObj_heap_other h)
theorem Ll{A:World}{k:Nat}{o:Obj}{a:Addr}(h:a.block≠k):(A.putObj k o).frozen? a=A.frozen? a:=World.frozen?_of_block (World.putObj_heap_other h)
theorem G9{B w A}(h:Below B w A){k}(o)(hk:B<=k):Below B w (A.putObj k o):=
 ⟨h.os,h.tape,h.output,by have:=h.size;simp[World.putObj];exact this,fun j hj=>(World.putObj_heap_other (by omega)).trans (h.block j hj)⟩
def MayI(R:Nat)(w:World)(pre:List ByteArray)(W:World):Prop:=
 W.cell? ⟨R+1,0,E⟩=G (.int .i64 pre.length)/\W.frozen? ⟨R+1,0,E⟩=false/\W.cell? ⟨R,0,E⟩=G (.bool false)/\W.frozen? ⟨R,0,E⟩=false/\Below R w W /\
  pre.length<=16/\(∀x∈pre,Gj x.data.toList=true)
def MayX(R:Nat)(w:World)(s:List UInt8)(c:Code)(_:List ByteArray)(W:World):Prop:=
 c = .ret/\W.cell? ⟨R,0,E⟩=G (.bool false)/\Below R w W/\Ea s=false
theorem U6{s pre}(h:pre <+:Bh 47 s)(hl:16<pre.length):Ea s=false:=by
 have:=h.length_le;unfold Ea;rw[decide_eq_false (by omega)];rfl
theorem Xf{s pre x}(h:pre++[x] <+:Bh 47 s)(hx:Gj x=false):Ea s=false:=by
 obtain⟨t,ht⟩:=h;unfold Ea;rw[<-ht];simp[hx]
theorem Xg{s pre}(h:pre=Bh 47 s)(hl:pre.length<=16)(hx:∀x∈pre,Gj x=true):Ea s=true:=by
 unfold Ea;rw[<-h,decide_eq_true hl];simpa using hx
theorem Kg(s w)(hs:s.size<=9223372036854775807):
  Calls Tryz.prog 288 #[F s] w (PBelow (Ea s.data.toList) w):=by
 refine(callsIn_wide (n:=1)).1 ?_;refine callsIn_of_wp_marks Tryz.func288 rfl trivial ?_ rfl;simp only[Tryz.ntmps288,List.size_toArray,List.length_cons,List.length_nil,Nat.reduceAdd,Nat.reduceSub,Array.replicate_succ,Array.replicate_zero,List.push_toArray,List.append_toArray,List.nil_append,List.cons_append]
 gi_wp2_with fail
 refine⟨trivial,?_⟩;refine(callsIn_wide.2 (Ti s ⟨#[47]⟩ _)).mono ?_;rintro e w' ⟨rfl,rfl⟩;obtain⟨W0,aA⟩:∃W0,W0=M0 ((w.alloc (.cells #[.bool false] 4)).alloc (.cells #[.int .i64 0] 3)) s ⟨#[47]⟩:=⟨_,rfl⟩;have hz:W0.heap.size=w.heap.size+5:=(by rw[aA];simp[M0]);have facts:W0.cell? ⟨w.heap.size,0,E⟩=G (.bool false)/\W0.frozen? ⟨w.heap.size,0,E⟩=false/\W0.cell? ⟨w.heap.size+1,0,E⟩=G (.int .i64 0)/\W0.frozen? ⟨w.heap.size+1,0,E⟩=false /\
   W0.cell? ⟨w.heap.size+2,0,E⟩=G (F s)/\W0.frozen? ⟨w.heap.size+2,0,E⟩=false/\W0.cell? ⟨w.heap.size+3,0,E⟩=G (F ⟨#[47]⟩)/\W0.cell? ⟨w.heap.size+4,0,E⟩=G (.int .i64 0)/\Below w.heap.size w W0:=by
  rw[aA];unfold M0;refine⟨by go_simp,by go_simp,by go_simp,by go_simp,by go_simp,by go_simp,by go_simp,by go_simp,?_⟩;exact(((((Below.refl _ w).alloc (Nat.le_refl _) _).alloc (by simp) _).alloc (by simp;omega) _).alloc (by simp;omega) _).alloc (by simp;omega) _
 rw[<-aA];have HW0:=Lq7 aA;simp only[World.size_alloc];obtain⟨f0,f1,f2,f3,f4,f5,f6,f7,f8⟩:=facts
 gi_wp2
 refine Ta (gf:=303) (lb:=#[H (G ⟨w.heap.size+3,0,E⟩),H (G ⟨w.heap.size+2,0,E⟩),H (G ⟨w.heap.size+4,0,E⟩)]) rfl (enters_of Tryz.func303 (by kernel_rfl) rfl)
  (encs:=fun x:ByteArray=>#[F x]) (Ab:=SeqAb (w.heap.size+2)) (Kp:=Qm (w.heap.size+2)) (Nx:=Vw 47 s) (S:=fun xs=>xs.map (·.data.toList)=Bh 47 s.data.toList) (Sp:=fun pre=>pre.map (·.data.toList) <+:Bh 47 s.data.toList)
  ?hseq ?hKt ?hKb ?hAb (fun _=>rfl) (MayI w.heap.size w) (MayX w.heap.size w s.data.toList) ?hI ?hIx ?hIA ?hIxA ?h0
  (fun x=>{ tmps:=#[F s,undef,H (G ⟨w.heap.size,0,E⟩),H (G ⟨w.heap.size+1,0,E⟩),F x,F s,.func (.func 303) #[] #[H (G ⟨w.heap.size+3,0,E⟩),H (G ⟨w.heap.size+2,0,E⟩),H (G ⟨w.heap.size+4,0,E⟩)],F x,undef,undef,undef,undef,undef,undef,undef,undef,undef],defers:=[]}) ?assign ?body ?done ?stop
 case hseq=>
  intro W hW;exact Q2 (w.heap.size+2) s 47 W hs ((hW.cell (p:=⟨w.heap.size+2,0,E⟩) (by simp;omega)).trans f4) ((hW.frozen (p:=⟨w.heap.size+2,0,E⟩) (by simp;omega)).trans f5) ((hW.cell (p:=⟨w.heap.size+3,0,E⟩) (by simp;omega)).trans f6) ((hW.cell (p:=⟨w.heap.size+4,0,E⟩) (by simp;omega)).trans f7)
 case hKt=>exact fun A B C h k j h1 h2=>(k j h1 h2).trans (h j h1 h2)
 case hKb=>exact fun A k o hk j h1 h2=>World.putObj_heap_other (by omega)
 case hAb=>
  rintro A B ⟨v,rfl⟩ k o hk ho;rw[Below.heap_setCell _ _ _ _ (by simp;omega)];exact ho
 case hI=>
  rintro pre A k o ⟨h1,h2,h3,h4,h5,h6⟩ hk;exact⟨(Gu (by simp;omega)).trans h1,(Ll (by simp;omega)).trans h2,(Gu (by simp;omega)).trans h3,(Ll (by simp;omega)).trans h4,G9 h5 _ (by omega),h6⟩
 case hIx=>
  rintro c pre A k o ⟨h1,h3,h5,h6⟩ hk;exact⟨h1,(Gu (by simp;omega)).trans h3,G9 h5 _ (by omega),h6⟩
 case hIA=>
  rintro pre A B ⟨h1,h2,h3,h4,h5,h6⟩ ⟨v,rfl⟩;exact⟨by go_simp,by go_simp,by go_simp,by go_simp,h5.setCell (p:=⟨w.heap.size+2,0,E⟩) (by simp) _,h6⟩
 case hIxA=>
  rintro c pre A B ⟨h1,h3,h5,h6⟩ ⟨v,rfl⟩;exact⟨h1,by go_simp,h5.setCell (p:=⟨w.heap.size+2,0,E⟩) (by simp) _,h6⟩
 case h0=>
  intro W hW;exact⟨(hW.cell (p:=⟨w.heap.size+1,0,E⟩) (by simp;omega)).trans f2,(hW.frozen (p:=⟨w.heap.size+1,0,E⟩) (by simp;omega)).trans f3,(hW.cell (p:=⟨w.heap.size,0,E⟩) (by simp;omega)).trans f0,(hW.frozen (p:=⟨w.heap.size,0,E⟩) (by simp;omega)).trans f1,
   f8.trans (hW.mono (by omega)),Nat.zero_le _,fun x hx=>by cases hx⟩
 case assign=>
  intro l x W K hK
  gi_wp2
  exact hK
 case body=>
  rintro l pre x W ⟨h1,h2,h3,h4,h5,h6,h7⟩ aB hsz;have H7:=Lq7 h7;have hsz':w.heap.size+6<W.heap.size:=(by omega);by_cases hn:pre.length<16
  ·gi_wp2_with fail
   refine⟨trivial,rfl,?_⟩;refine(CallsIn.inRound l (callsIn_wide.2 (S6 x _))).mono ?_;rintro e W' ⟨rfl,hb⟩;have two:Two W0.heap.size W W':=by
    intro k o hk ho;rw[hb.block k (by simp;omega),Below.heap_setCell _ _ _ _ (by simp;omega)];exact ho
   have kp:Qm (w.heap.size+2) W W':=by
    intro k k1 k2;rw[hb.block k (by simp;omega),Below.heap_setCell _ _ _ _ (by simp;omega)]
   have c1:W'.cell? ⟨w.heap.size+1,0,E⟩=G (.int .i64 (pre.length+1)):=by
    rw[hb.cell (p:=⟨w.heap.size+1,0,E⟩) (by simp;omega)];go_simp
   have d1:W'.frozen? ⟨w.heap.size+1,0,E⟩=false:=by
    rw[hb.frozen (p:=⟨w.heap.size+1,0,E⟩) (by simp;omega)];go_simp
   have c0:W'.cell? ⟨w.heap.size,0,E⟩=G (.bool false):=by
    rw[hb.cell (p:=⟨w.heap.size,0,E⟩) (by simp;omega)];go_simp
   have d0:W'.frozen? ⟨w.heap.size,0,E⟩=false:=by
    rw[hb.frozen (p:=⟨w.heap.size,0,E⟩) (by simp;omega)];go_simp
   have bb:Below w.heap.size w W':=(h5.setCell (p:=⟨w.heap.size+1,0,E⟩) (by simp) _).trans (hb.mono (by simp;omega));have HT:=Lq7 two;have HKp:=Lq7 kp;cases hx:Gj x.data.toList
   ·have Hx:=Lq7 hx
    gi_wp2_with fail
    refine⟨fun k o hk ho=>?_,rfl,by go_simp,bb.setCell (p:=⟨w.heap.size,0,E⟩) (by simp) _,Xf (pre:=pre.map (·.data.toList)) (x:=x.data.toList) (by simpa[Vw] using aB) Hx.out⟩;rw[Below.heap_setCell _ _ _ _ (by simp;omega)];exact HT.out k o hk ho
   ·have Hx:=Lq7 hx
    gi_wp2_with fail
    exact⟨HT.out,HKp.out,by simpa using c1,d1,c0,d0,bb,by simp;omega,fun y hy=>by rcases List.mem_append.1 hy with h|h;(exact H7.out y h);(rw[List.mem_singleton.1 h];exact Hx.out)⟩
  ·gi_wp2_with fail
   refine⟨trivial,?_⟩
   gi_wp2_with fail
   refine⟨fun k o hk ho=>?_,rfl,by go_simp,(h5.setCell (p:=⟨w.heap.size+1,0,E⟩) (by simp) _).setCell (p:=⟨w.heap.size,0,E⟩) (by simp) _,U6 (show(pre++[x]).map (fun y:ByteArray=>y.data.toList) <+:Bh 47 s.data.toList from aB) (by simp;omega)⟩;rw[Below.heap_setCell _ _ _ _ (by simp;omega),Below.heap_setCell _ _ _ _ (by simp;omega)];exact ho
 case done=>
  rintro D xs W hD hS ⟨h1,h2,h3,h4,h5,h6,h7⟩ hK;have H7:=Lq7 h7;have HS:=Lq7 hS
  gi_wp2_with fail
  have hK':(W.setCell ⟨w.heap.size,0,E⟩ (.bool true)).heap[D]? = G (.deferred (G [])):=by
   rw[Below.heap_setCell _ _ _ _ (by simp;omega)];exact hK
  refine⟨by simp,.inl ⟨_,_,rfl,run_takeDeferred hK',?_⟩⟩;have hc:((W.setCell ⟨w.heap.size,0,E⟩ (.bool true)).putObj D (.deferred E)).cell? ⟨w.heap.size,0,E⟩=G (.bool true):=by
   rw[Gu (by simp;omega)];go_simp
  refine⟨.bool true,by simp[results,Tryz.results288,go_sem,hc],Bb (Xg HS.out (by simpa using h6) (by intro y hy;obtain⟨x,hx,rfl⟩:=List.mem_map.1 hy;exact H7.out x hx)).symm,?_⟩;exact G9 (h5.setCell (p:=⟨w.heap.size,0,E⟩) (by simp) _) _ (by omega)
 case stop=>
  rintro D c pre W hD hSp ⟨rfl,h3,h5,h6⟩ hK;have H6:=Lq7 h6;have HS:=Lq7 hSp
  gi_wp2_with fail
  refine⟨by simp,.inl ⟨_,_,rfl,run_takeDeferred hK,?_⟩⟩;have hc:(W.putObj D (.deferred E)).cell? ⟨w.heap.size,0,E⟩=G (.bool false):=by
   rw[Gu (by simp;omega)];exact h3
  exact⟨.bool false,by simp[results,Tryz.results288,go_sem,hc],Bb H6.out.symm,G9 h5 _ (by omega)⟩
end Go.Proofs.YtlbbbapiklendaaGreatDoor
namespace Go.Proofs.YtlbbbapiklendaaGreatDoor
open Go.Value renaming string->F,pointer->H
open Option renaming some->G,none->E
open Go Go.RowKit
open Go.Lib renaming hid->Lq7
set_option maxRecDepth 100000
set_option maxHeartbeats 16000000
structure LabelP where
 pkg:List UInt8
 name:List UInt8
theorem Ia(c t):Bh c (c::t)=[]::Bh c t:=by simp[Bh]
theorem I3{c x}(h:x≠c)(t):∃a l,Bh c t=a::l/\Bh c (x::t)=(x::a)::l:=by
 refine⟨(Bh c t).headD [],(Bh c t).tail,(Oj c t).symm,?_⟩;rw[Bh,if_neg h]
def glue:List (List UInt8)->List UInt8
 | []=>[]
 | x::l=>if l=[] then x else x++47::glue l
theorem Vz(x):glue [x]=x:=by simp[glue]
theorem Abb(x y l):glue (x::y::l)=x++47::glue (y::l):=by
 rw[glue,if_neg (by simp)]
theorem V0(s):glue (Bh 47 s)=s:=by
 induction s with
 | nil=>rfl
 | cons x t ih=>
  by_cases hx:x=47
  ·subst hx;rw[Ia,glue,if_neg (J8 _ _),ih];rfl
  ·obtain⟨a,l,h1,h2⟩:=I3 hx t;rw[h1] at ih;rw[h2];cases l with
   | nil=>rw[Vz] at ih |-;rw[ih]
   | cons y l=>rw[Abb] at ih |-;rw[List.cons_append,ih]
def M4(s:List UInt8):List UInt8:=if Ea s then glue (Bh 47 s).dropLast else []
theorem Abc{s}(hl:(Bh 47 s).length=1):M4 s=[]:=by
 unfold M4;split
 ·obtain⟨x,hx⟩:=List.length_eq_one_iff.1 hl;rw[hx];rfl
 ·rfl
theorem dirOf_up{s}(h:Ea s=true):M4 s=glue (Bh 47 s).dropLast:=by unfold M4;rw[if_pos h]
/-! What else the packages ask of paths. -/
theorem Tk(c a b):Bh c (a++c::b)=Bh c a++Bh c b:=by
 induction a with
 | nil=>rw[List.nil_append,Ia];rfl
 | cons x t ih=>
  by_cases hx:x=c
  ·subst hx;rw[List.cons_append,Ia,Ia,ih,List.cons_append]
  ·obtain⟨u,l,h1,h2⟩:=I3 hx (t++c::b);obtain⟨u',l',h3,h4⟩:=I3 hx t;rw[List.cons_append,h2,h4];rw[h1,h3,List.cons_append] at ih;injection ih with e1 e2;rw[e1,e2,List.cons_append]
def Fm(s:List UInt8):List UInt8:=if Ea s then(Bh 47 s).getLast (J8 47 s) else []
theorem path_one{s}(h:Ea s=true)(hl:(Bh 47 s).length=1):Fm s=s:=by
 unfold Fm;rw[if_pos h];obtain⟨x,hx⟩:=List.length_eq_one_iff.1 hl;have h1:=V0 s;rw[hx,Vz] at h1;simp only[hx,List.getLast_singleton];exact h1
theorem cut_last{c}(x y)(h:c∉y):Bh c (x++c::y)=Bh c x++[y]:=by
 rw[Tk,Lt c y h]
theorem P6(s:ByteArray)(j:Nat)(h:j<s.size):s.data[j]! = s[j]:=getElem!_pos s.data j h
theorem last_cutP(s):(Lib.lastIndexByte s 47 = -1/\Bh 47 s.data.toList=[s.data.toList])\/∃i:Nat,i<s.size/\Lib.lastIndexByte s 47=i/\Bh 47 s.data.toList=Bh 47 (s.data.toList.take i)++[s.data.toList.drop (i+1)]:=by
 have aC:∀k,(∀j,k<=j->j<s.size->((s.data[j]!).toNat:Int)≠47)->(47:UInt8)∉s.data.toList.drop k:=by
  intro k h hm;obtain⟨j,hj,e⟩:=List.mem_iff_getElem.1 hm;rw[List.length_drop,Ai] at hj;rw[List.getElem_drop] at e;have hb:=P6 s (k+j) (by omega);have:s[k+j]=47:=e;refine h (k+j) (by omega) (by omega) ?_;rw[hb,this];rfl
 rcases Lib.lastIndexByte_spec s 47 with⟨e,hn⟩|⟨i,hi,e,hc,hn⟩
 ·left
  refine⟨e,Lt _ _ ?_⟩;have:=aC 0 (fun j _ h=>hn j h)
  simpa using this
 ·right
  refine⟨i,hi,e,?_⟩;rw[P6 s i hi] at hc;have hc':s[i]=47:=UInt8.toNat_inj.1 (show(s[i]).toNat=47 by omega);rw[<-cut_last _ _ (aC (i+1) (fun j h=>hn j (by omega)))];refine congrArg _ ?_;have:s.data.toList[i]'(by rw[Ai];exact hi)=47:=hc';rw[<-this,<-List.drop_eq_getElem_cons,List.take_append_drop]
theorem Ys{s}(h:Ea s=false):M4 s=[]/\Fm s=[]:=by
 unfold M4 Fm;rw[h];exact⟨rfl,rfl⟩
theorem U5{s}(h:Ea s=true)(hc:Bh 47 s=[s]):M4 s=[]/\Fm s=s:=by
 have hl:(Bh 47 s).length=1:=(by rw[hc];rfl);exact⟨Abc hl,path_one h hl⟩
theorem Yt{s a b}(h:Ea s=true)(hc:Bh 47 s=Bh 47 a++[b]):M4 s=a/\Fm s=b:=by
 refine⟨?_,?_⟩
 ·rw[dirOf_up h,hc,List.dropLast_concat,V0]
 ·unfold Fm;rw[if_pos h];generalize hg:(Bh 47 s).getLast (J8 47 s)=z;have h2:=List.dropLast_concat_getLast (J8 47 s);rw[hg,hc,List.dropLast_concat] at h2;exact List.singleton_inj.1 (List.append_cancel_left h2)
theorem Z4(s:ByteArray)(i:Nat):(s.extract 0 i).data.toList=s.data.toList.take i:=by simp[ByteArray.data_extract]
def PCut(s:ByteArray)(w:World)(e:Ending)(w':World):Prop:=∃d b:ByteArray,e = .returned (.tuple #[F d,F b])/\d.data.toList=M4 s.data.toList/\b.data.toList=Fm s.data.toList/\Below w.heap.size w w'
theorem cut_any(s w)(hs:s.size<4294967281):
  Calls Tryz.prog 290 #[F s] w (PCut s w):=by
 have HM:=Lq7 (Kg s w (by omega));cases hok:Ea s.data.toList with
 | false=>
  rw[hok] at HM;have Hb:=Lq7 (Ys hok);go_enter Tryz.func290,Tryz.ntmps290;go_wp2_with fail;refine HM.out.mono ?_;rintro e w1 ⟨rfl,aA⟩;have aB:=Lq7 aA;go_wp2_with fail;exact bodyPost_ret (v:=.tuple #[F ⟨#[]⟩,F ⟨#[]⟩]) (by simp[results,Tryz.results290,go_sem]) rfl ⟨_,_,rfl,Hb.out.1.symm,Hb.out.2.symm,aB.out⟩
 | true=>
  rw[hok] at HM;rcases last_cutP s with⟨e,hc⟩|⟨i,hi,e,hc⟩
  ·have Hd:=Lq7 (U5 hok hc);go_enter Tryz.func290,Tryz.ntmps290;go_wp2_with fail;refine HM.out.mono ?_;rintro e' w1 ⟨rfl,aA⟩;have aB:=Lq7 aA;go_wp2_with fail;refine(Tryz.strings_LastIndexByte s 47 (by omega) _).mono ?_;rintro e' w2 ⟨rfl,hw⟩;have hw:=hw.symm;subst hw;rw[e];go_wp2_with fail;exact bodyPost_ret (v:=.tuple #[F ⟨#[]⟩,F s]) (by simp[results,Tryz.results290,go_sem]) rfl ⟨_,_,rfl,Hd.out.1.symm,Hd.out.2.symm,aB.out⟩
  ·have Hd:=Lq7 (Yt hok hc);go_enter Tryz.func290,Tryz.ntmps290;go_wp2_with fail;refine HM.out.mono ?_;rintro e' w1 ⟨rfl,aA⟩;have aB:=Lq7 aA;go_wp2_with fail;refine(Tryz.strings_LastIndexByte s 47 (by omega) _).mono ?_;rintro e' w2 ⟨rfl,hw⟩;have hw:=hw.symm;subst hw;rw[e];go_wp2_with fail
   go_quiet (fail)
   go_wp2_with fail;exact bodyPost_ret (v:=.tuple #[F (s.extract 0 i),F (s.extract (i+1) s.size)]) (by simp[results,Tryz.results290,go_sem]) rfl ⟨_,_,rfl,by rw[Hd.out.1,Z4],by rw[Hd.out.2,I5],C0 aB.out nq⟩
theorem P7(s w)(hs:s.size<4294967281):
  Calls Tryz.prog 279 #[F s] w (fun e w'=>∃b:ByteArray,e = .returned (F b)/\b.data.toList=Fm s.data.toList/\Below w.heap.size w w'):=by
 have HC:=Lq7 (cut_any s w hs);go_enter Tryz.func279,Tryz.ntmps279;go_wp2_with fail;refine HC.out.mono ?_;rintro e w1 ⟨d,b,rfl,hd,hb,aA⟩;have H1:=Lq7 (And.intro hb aA);go_wp2_with fail;go_ret;exact⟨_,rfl,H1.out.1,H1.out.2⟩
end Go.Proofs.YtlbbbapiklendaaGreatDoor
