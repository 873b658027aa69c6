/-
  The walks of path.cut,Dir's part and Base:a path's directory and its last part. (And what it stands on.)
-/
import Derived.Test.YtlbbbapiklendaaGreatDoorMRawMap
import Derived.Test.YtlbbbapiklendaaGreatDoorCut
import Derived.Test.YtlbbbapiklendaaGreatDoorMPathPart
namespace Go.Proofs.YtlbbbapiklendaaGreatDoor
open Go.Value renaming string->F,pointer->H
open Option renaming some->G,none->E
open Go Go.RowKit Go.Shelf
open Go.Lib renaming hid->Lq7
set_option maxRecDepth 100000
set_option maxHeartbeats 16000000
attribute [local go_sem] Oper.semAt_some
def Nc(w:World)(s sep:ByteArray):World:=((w.alloc (.cells #[F s] 9)).alloc (.cells #[F sep] 9)).alloc (.cells #[.int .i64 0] 3)
theorem Ub(s sep w):
  Calls Tryz.prog 293 #[F s,F sep] w fun e w'=>e = .returned (.func (.func 303) #[] #[H (G ⟨w.heap.size+1,0,E⟩),H (G ⟨w.heap.size,0,E⟩),H (G ⟨w.heap.size+2,0,E⟩)])/\w'=Nc w s sep:=by
 go_enter Tryz.func293,Tryz.ntmps293;go_wp2;go_ret;exact⟨rfl,rfl⟩
def SeqAb(B:Nat)(A A':World):Prop:=∃v,A'=A.setCell ⟨B,0,E⟩ v
def Q3(B:Nat)(A A':World):Prop:=∀k,k<B+3->B<=k->A'.heap[k]? = A.heap[k]?
def Xc(c:UInt8)(s:ByteArray)(pre:List ByteArray)(x:ByteArray):Prop:=((pre++[x]).map (·.data.toList)) <+:Bd c s.data.toList
theorem Q3.cell{B A A'}(h:Q3 B A A'){k}(h1:k<B+3)(h2:B<=k):A'.cell? ⟨k,0,E⟩=A.cell? ⟨k,0,E⟩:=World.cell?_of_block (h k h1 h2)
theorem Q3.frozen{B A A'}(h:Q3 B A A'){k}(h1:k<B+3)(h2:B<=k):A'.frozen? ⟨k,0,E⟩=A.frozen? ⟨k,0,E⟩:=World.frozen?_of_block (h k h1 h2)
def Uc(W:World)(B:Nat):Nat:=match W.cell? ⟨B,0,E⟩ with|some (F s)=>s.size|_=>0
theorem Sz{W B s}(h:W.cell? ⟨B,0,E⟩=G (F s)):Uc W B=s.size:=by unfold Uc;rw[h]
theorem Ri(B s c W)(hs:s.size<=9223372036854775807)(h0:W.cell? ⟨B,0,E⟩=G (F s))(hf:W.frozen? ⟨B,0,E⟩=false)(h1:W.cell? ⟨B+1,0,E⟩=G (F ⟨#[c]⟩))(h2:W.cell? ⟨B+2,0,E⟩=G (.int .i64 0)):
  Zz Tryz.prog 303 #[H (G ⟨B+1,0,E⟩),H (G ⟨B,0,E⟩),H (G ⟨B+2,0,E⟩)] (fun x:ByteArray=>#[F x]) (SeqAb B) (Q3 B) (Xc c s)
   (fun xs=>xs.map (·.data.toList)=Bd c s.data.toList) (fun pre=>pre.map (·.data.toList) <+:Bd c s.data.toList) W:=by
 intro l J Jx hJ hJx hY hJ0;refine callsIn_of_wp Tryz.func303 rfl trivial ?_ rfl;simp only[Tryz.ntmps303,List.size_toArray,List.length_cons,List.length_nil,Nat.reduceAdd,Nat.reduceSub,Array.replicate_succ,Array.replicate_zero,List.push_toArray,List.append_toArray,List.nil_append,List.cons_append]
 gi_wp2
 gi_loopw [7,8] (fun _ _ wr=>∃(pre:List ByteArray) (cur:ByteArray),wr.cell? ⟨B,0,E⟩=G (F cur)/\wr.frozen? ⟨B,0,E⟩=false/\wr.cell? ⟨B+1,0,E⟩=G (F ⟨#[c]⟩)/\wr.cell? ⟨B+2,0,E⟩=G (.int .i64 0) /\
   cur.size<=9223372036854775807/\Hid (pre.map (·.data.toList)++Bd c cur.data.toList=Bd c s.data.toList)/\J pre wr)
  (fun _ _ wr=>Uc wr B)
 case atStart=>exact⟨[],s,h0,hf,h1,h2,hs,rfl,hJ0⟩
 case round=>
  obtain⟨pre,cur,h0,hf,h1,h2,hs,hcut,aF⟩:=hrel;have hge:=Lib.indexByte_ge cur.data.toList c;by_cases hm:Lib.indexByte cur.data.toList c<0
  ·have aA:Hid (Bd c cur.data.toList=[cur.data.toList]):=Lq7 (Kl (by omega));obtain⟨fn,tmps,assign,body,hy,hR⟩:=hY pre cur wr aF (by unfold Xc;rw[<-hcut.out,aA.out,List.map_append];exact List.prefix_refl _);have HR:=Lq7 hR
   gi_wp2_with fail
   refine⟨trivial,rfl,?_⟩;refine(callsIn_wide.2 (Tryz.strings_Index_one cur c _)).mono ?_;rintro e w' ⟨rfl,rfl⟩
   gi_wp2_with fail
   refine⟨rfl,?_⟩;refine HR.out.mono ?_;have aC:Hid ((pre++[cur]).map (·.data.toList)=Bd c s.data.toList):=Lq7 (by rw[<-hcut.out,aA.out,List.map_append];rfl);rintro e W' (⟨rfl,hJ',hk⟩|⟨rfl,hJx'⟩)
   ·gi_wp2
    go_end0
    exact⟨⟨_,rfl⟩,.inl ⟨_,aC.out,hJ'⟩⟩
   ·gi_wp2
    go_end0
    exact⟨⟨_,rfl⟩,.inr ⟨_,by rw[aC.out];exact List.prefix_refl _,hJx'⟩⟩
  ·obtain⟨k,hk⟩:∃k:Nat,Lib.indexByte cur.data.toList c=k:=⟨(Lib.indexByte cur.data.toList c).toNat,by omega⟩;have Hk:=Lq7 hk;have hkl:k<cur.size:=(by have:=(indexByte_hit Hk.out).1;rw[Al] at this;exact this);have aD:Hid (Bd c cur.data.toList=(cur.extract 0 k).data.toList::Bd c (cur.extract (k+1) cur.size).data.toList):=Lq7 (by
    rw[O2 Hk.out,Ja,Lib.extract_data,List.drop_zero,Nat.sub_zero])
   obtain⟨fn,tmps,assign,body,hy,hR⟩:=hY pre (cur.extract 0 k) wr aF (by unfold Xc;rw[<-hcut.out,aD.out,List.map_append,List.append_cons];exact List.prefix_append _ _);have HR:=Lq7 hR
   gi_wp2_with fail
   refine⟨trivial,rfl,?_⟩;refine(callsIn_wide.2 (Tryz.strings_Index_one cur c _)).mono ?_;rintro e w' ⟨rfl,rfl⟩;rw[Hk.out]
   gi_wp2_with fail
   refine⟨rfl,?_⟩;have hk0:decide ((k:Int)<0)=false:=(by simp);have aB:Hid ((pre++[cur.extract 0 k]).map (·.data.toList)++Bd c (cur.extract (k+1) cur.size).data.toList=Bd c s.data.toList):=Lq7 (by
    rw[<-hcut.out,aD.out,List.map_append,List.append_assoc];rfl)
   refine HR.out.mono ?_;rintro e W' (⟨rfl,hJ',aE⟩|⟨rfl,hJx'⟩)
   ·have c0:=(aE.cell (k:=B) (by omega) (by omega)).trans h0;have f0:=(aE.frozen (k:=B) (by omega) (by omega)).trans hf;have c1:=(aE.cell (k:=B+1) (by omega) (by omega)).trans h1;have c2:=(aE.cell (k:=B+2) (by omega) (by omega)).trans h2;have HL:Hid (Uc w' B=cur.size):=Lq7 (Sz h0);have hJ'':=hJ _ _ _ hJ' ⟨F (cur.extract (k+1) cur.size),rfl⟩;have B0:(W'.setCell ⟨B,0,E⟩ (F (cur.extract (k+1) cur.size))).cell? ⟨B,0,E⟩=G (F (cur.extract (k+1) cur.size)):=(by go_simp);have B1:(W'.setCell ⟨B,0,E⟩ (F (cur.extract (k+1) cur.size))).cell? ⟨B+1,0,E⟩=G (F ⟨#[c]⟩):=(by go_simp);have B2:(W'.setCell ⟨B,0,E⟩ (F (cur.extract (k+1) cur.size))).cell? ⟨B+2,0,E⟩=G (.int .i64 0):=(by go_simp);have F0:(W'.setCell ⟨B,0,E⟩ (F (cur.extract (k+1) cur.size))).frozen? ⟨B,0,E⟩=false:=(by go_simp);have HB:=Lq7 (And.intro B0 (And.intro F0 (And.intro B1 B2)))
    gi_wp2
    exact⟨⟨pre++[cur.extract 0 k],_,HB.out.1,HB.out.2.1,HB.out.2.2.1,HB.out.2.2.2,by rw[ByteArray.size_extract];omega,aB,hJ''⟩,by rw[Sz HB.out.1,HL.out,ByteArray.size_extract];omega⟩
   ·gi_wp2
    refine bodyPost_ret (results_none rfl _ _ _) rfl ?_;exact⟨⟨_,rfl⟩,.inr ⟨_,by rw[<-aB.out];exact List.prefix_append _ _,hJx'⟩⟩
attribute [local go_sem] Oper.semAt_some
def Ee(l:List UInt8):Bool:=decide ((Bd 47 l).length<=16)&&(Bd 47 l).all Gq
theorem G1{A:World}{k:Nat}{o:Obj}{a:Addr}(h:a.block≠k):(A.putObj k o).cell? a=A.cell? a:=World.cell?_of_block (World.putObj_heap_other h)
theorem Lz{A:World}{k:Nat}{o:Obj}{a:Addr}(h:a.block≠k):(A.putObj k o).frozen? a=A.frozen? a:=World.frozen?_of_block (World.putObj_heap_other h)
theorem Ie{B w A}(h:Below B w A){k}(o)(hk:B<=k):Below B w (A.putObj k o):=
 ⟨h.os,h.tape,h.output,by have:=h.size;simp[World.putObj];exact this,fun j hj=>(World.putObj_heap_other (by omega)).trans (h.block j hj)⟩
def MayI(R:Nat)(w:World)(pre:List ByteArray)(W:World):Prop:=
 W.cell? ⟨R+1,0,E⟩=G (.int .i64 pre.length)/\W.frozen? ⟨R+1,0,E⟩=false/\W.cell? ⟨R,0,E⟩=G (.bool false)/\W.frozen? ⟨R,0,E⟩=false/\Below R w W /\
  pre.length<=16/\(∀x∈pre,Gq x.data.toList=true)
def MayX(R:Nat)(w:World)(s:List UInt8)(c:Code)(_:List ByteArray)(W:World):Prop:=
 c = .ret/\W.cell? ⟨R,0,E⟩=G (.bool false)/\Below R w W/\Ee s=false
theorem V0{s pre}(h:pre <+:Bd 47 s)(hl:16<pre.length):Ee s=false:=by
 have:=h.length_le;unfold Ee;rw[decide_eq_false (by omega)];rfl
theorem Yh{s pre x}(h:pre++[x] <+:Bd 47 s)(hx:Gq x=false):Ee s=false:=by
 obtain⟨t,ht⟩:=h;unfold Ee;rw[<-ht];simp[hx]
theorem Yi{s pre}(h:pre=Bd 47 s)(hl:pre.length<=16)(hx:∀x∈pre,Gq x=true):Ee s=true:=by
 unfold Ee;rw[<-h,decide_eq_true hl];simpa using hx
theorem Kw(s w)(hs:s.size<=9223372036854775807):
  Calls Tryz.prog 288 #[F s] w (Tw (Ee s.data.toList) w):=by
 refine(callsIn_wide (n:=1)).1 ?_;refine callsIn_of_wp_marks Tryz.func288 rfl trivial ?_ rfl;simp only[Tryz.ntmps288,List.size_toArray,List.length_cons,List.length_nil,Nat.reduceAdd,Nat.reduceSub,Array.replicate_succ,Array.replicate_zero,List.push_toArray,List.append_toArray,List.nil_append,List.cons_append]
 gi_wp2_with fail
 refine⟨trivial,?_⟩;refine(callsIn_wide.2 (Ub s ⟨#[47]⟩ _)).mono ?_;rintro e w' ⟨rfl,rfl⟩;obtain⟨W0,aA⟩:∃W0,W0=Nc ((w.alloc (.cells #[.bool false] 4)).alloc (.cells #[.int .i64 0] 3)) s ⟨#[47]⟩:=⟨_,rfl⟩;have hz:W0.heap.size=w.heap.size+5:=(by rw[aA];simp[Nc]);have facts:W0.cell? ⟨w.heap.size,0,E⟩=G (.bool false)/\W0.frozen? ⟨w.heap.size,0,E⟩=false/\W0.cell? ⟨w.heap.size+1,0,E⟩=G (.int .i64 0)/\W0.frozen? ⟨w.heap.size+1,0,E⟩=false /\
   W0.cell? ⟨w.heap.size+2,0,E⟩=G (F s)/\W0.frozen? ⟨w.heap.size+2,0,E⟩=false/\W0.cell? ⟨w.heap.size+3,0,E⟩=G (F ⟨#[47]⟩)/\W0.cell? ⟨w.heap.size+4,0,E⟩=G (.int .i64 0)/\Below w.heap.size w W0:=by
  rw[aA];unfold Nc;refine⟨by go_simp,by go_simp,by go_simp,by go_simp,by go_simp,by go_simp,by go_simp,by go_simp,?_⟩;exact(((((Below.refl _ w).alloc (Nat.le_refl _) _).alloc (by simp) _).alloc (by simp;omega) _).alloc (by simp;omega) _).alloc (by simp;omega) _
 rw[<-aA];have HW0:=Lq7 aA;simp only[World.size_alloc];obtain⟨f0,f1,f2,f3,f4,f5,f6,f7,f8⟩:=facts
 gi_wp2
 refine T0 (gf:=303) (lb:=#[H (G ⟨w.heap.size+3,0,E⟩),H (G ⟨w.heap.size+2,0,E⟩),H (G ⟨w.heap.size+4,0,E⟩)]) rfl (enters_of Tryz.func303 (by kernel_rfl) rfl)
  (encs:=fun x:ByteArray=>#[F x]) (Ab:=SeqAb (w.heap.size+2)) (Kp:=Q3 (w.heap.size+2)) (Nx:=Xc 47 s) (S:=fun xs=>xs.map (·.data.toList)=Bd 47 s.data.toList) (Sp:=fun pre=>pre.map (·.data.toList) <+:Bd 47 s.data.toList)
  ?hseq ?hKt ?hKb ?hAb (fun _=>rfl) (MayI w.heap.size w) (MayX w.heap.size w s.data.toList) ?hI ?hIx ?hIA ?hIxA ?h0
  (fun x=>{ tmps:=#[F s,undef,H (G ⟨w.heap.size,0,E⟩),H (G ⟨w.heap.size+1,0,E⟩),F x,F s,.func (.func 303) #[] #[H (G ⟨w.heap.size+3,0,E⟩),H (G ⟨w.heap.size+2,0,E⟩),H (G ⟨w.heap.size+4,0,E⟩)],F x,undef,undef,undef,undef,undef,undef,undef,undef,undef],defers:=[]}) ?assign ?body ?done ?stop
 case hseq=>
  intro W hW;exact Ri (w.heap.size+2) s 47 W hs ((hW.cell (p:=⟨w.heap.size+2,0,E⟩) (by simp;omega)).trans f4) ((hW.frozen (p:=⟨w.heap.size+2,0,E⟩) (by simp;omega)).trans f5) ((hW.cell (p:=⟨w.heap.size+3,0,E⟩) (by simp;omega)).trans f6) ((hW.cell (p:=⟨w.heap.size+4,0,E⟩) (by simp;omega)).trans f7)
 case hKt=>exact fun A B C h k j h1 h2=>(k j h1 h2).trans (h j h1 h2)
 case hKb=>exact fun A k o hk j h1 h2=>World.putObj_heap_other (by omega)
 case hAb=>
  rintro A B ⟨v,rfl⟩ k o hk ho;rw[Below.heap_setCell _ _ _ _ (by simp;omega)];exact ho
 case hI=>
  rintro pre A k o ⟨h1,h2,h3,h4,h5,h6⟩ hk;exact⟨(G1 (by simp;omega)).trans h1,(Lz (by simp;omega)).trans h2,(G1 (by simp;omega)).trans h3,(Lz (by simp;omega)).trans h4,Ie h5 _ (by omega),h6⟩
 case hIx=>
  rintro c pre A k o ⟨h1,h3,h5,h6⟩ hk;exact⟨h1,(G1 (by simp;omega)).trans h3,Ie h5 _ (by omega),h6⟩
 case hIA=>
  rintro pre A B ⟨h1,h2,h3,h4,h5,h6⟩ ⟨v,rfl⟩;exact⟨by go_simp,by go_simp,by go_simp,by go_simp,h5.setCell (p:=⟨w.heap.size+2,0,E⟩) (by simp) _,h6⟩
 case hIxA=>
  rintro c pre A B ⟨h1,h3,h5,h6⟩ ⟨v,rfl⟩;exact⟨h1,by go_simp,h5.setCell (p:=⟨w.heap.size+2,0,E⟩) (by simp) _,h6⟩
 case h0=>
  intro W hW;exact⟨(hW.cell (p:=⟨w.heap.size+1,0,E⟩) (by simp;omega)).trans f2,(hW.frozen (p:=⟨w.heap.size+1,0,E⟩) (by simp;omega)).trans f3,(hW.cell (p:=⟨w.heap.size,0,E⟩) (by simp;omega)).trans f0,(hW.frozen (p:=⟨w.heap.size,0,E⟩) (by simp;omega)).trans f1,
   f8.trans (hW.mono (by omega)),Nat.zero_le _,fun x hx=>by cases hx⟩
 case assign=>
  intro l x W K hK
  gi_wp2
  exact hK
 case body=>
  rintro l pre x W ⟨h1,h2,h3,h4,h5,h6,h7⟩ aB hsz;have H7:=Lq7 h7;have hsz':w.heap.size+6<W.heap.size:=(by omega);by_cases hn:pre.length<16
  ·gi_wp2_with fail
   refine⟨trivial,rfl,?_⟩;refine(CallsIn.inRound l (callsIn_wide.2 (Tx x _))).mono ?_;rintro e W' ⟨rfl,hb⟩;have two:Two W0.heap.size W W':=by
    intro k o hk ho;rw[hb.block k (by simp;omega),Below.heap_setCell _ _ _ _ (by simp;omega)];exact ho
   have kp:Q3 (w.heap.size+2) W W':=by
    intro k k1 k2;rw[hb.block k (by simp;omega),Below.heap_setCell _ _ _ _ (by simp;omega)]
   have c1:W'.cell? ⟨w.heap.size+1,0,E⟩=G (.int .i64 (pre.length+1)):=by
    rw[hb.cell (p:=⟨w.heap.size+1,0,E⟩) (by simp;omega)];go_simp
   have d1:W'.frozen? ⟨w.heap.size+1,0,E⟩=false:=by
    rw[hb.frozen (p:=⟨w.heap.size+1,0,E⟩) (by simp;omega)];go_simp
   have c0:W'.cell? ⟨w.heap.size,0,E⟩=G (.bool false):=by
    rw[hb.cell (p:=⟨w.heap.size,0,E⟩) (by simp;omega)];go_simp
   have d0:W'.frozen? ⟨w.heap.size,0,E⟩=false:=by
    rw[hb.frozen (p:=⟨w.heap.size,0,E⟩) (by simp;omega)];go_simp
   have bb:Below w.heap.size w W':=(h5.setCell (p:=⟨w.heap.size+1,0,E⟩) (by simp) _).trans (hb.mono (by simp;omega));have HT:=Lq7 two;have HKp:=Lq7 kp;cases hx:Gq x.data.toList
   ·have Hx:=Lq7 hx
    gi_wp2_with fail
    refine⟨fun k o hk ho=>?_,rfl,by go_simp,bb.setCell (p:=⟨w.heap.size,0,E⟩) (by simp) _,Yh (pre:=pre.map (·.data.toList)) (x:=x.data.toList) (by simpa[Xc] using aB) Hx.out⟩;rw[Below.heap_setCell _ _ _ _ (by simp;omega)];exact HT.out k o hk ho
   ·have Hx:=Lq7 hx
    gi_wp2_with fail
    exact⟨HT.out,HKp.out,by simpa using c1,d1,c0,d0,bb,by simp;omega,fun y hy=>by rcases List.mem_append.1 hy with h|h;(exact H7.out y h);(rw[List.mem_singleton.1 h];exact Hx.out)⟩
  ·gi_wp2_with fail
   refine⟨trivial,?_⟩
   gi_wp2_with fail
   refine⟨fun k o hk ho=>?_,rfl,by go_simp,(h5.setCell (p:=⟨w.heap.size+1,0,E⟩) (by simp) _).setCell (p:=⟨w.heap.size,0,E⟩) (by simp) _,V0 (show(pre++[x]).map (fun y:ByteArray=>y.data.toList) <+:Bd 47 s.data.toList from aB) (by simp;omega)⟩;rw[Below.heap_setCell _ _ _ _ (by simp;omega),Below.heap_setCell _ _ _ _ (by simp;omega)];exact ho
 case done=>
  rintro D xs W hD hS ⟨h1,h2,h3,h4,h5,h6,h7⟩ hK;have H7:=Lq7 h7;have HS:=Lq7 hS
  gi_wp2_with fail
  have hK':(W.setCell ⟨w.heap.size,0,E⟩ (.bool true)).heap[D]? = G (.deferred (G [])):=by
   rw[Below.heap_setCell _ _ _ _ (by simp;omega)];exact hK
  refine⟨by simp,.inl ⟨_,_,rfl,run_takeDeferred hK',?_⟩⟩;have hc:((W.setCell ⟨w.heap.size,0,E⟩ (.bool true)).putObj D (.deferred E)).cell? ⟨w.heap.size,0,E⟩=G (.bool true):=by
   rw[G1 (by simp;omega)];go_simp
  refine⟨.bool true,by simp[results,Tryz.results288,go_sem,hc],A0 (Yi HS.out (by simpa using h6) (by intro y hy;obtain⟨x,hx,rfl⟩:=List.mem_map.1 hy;exact H7.out x hx)).symm,?_⟩;exact Ie (h5.setCell (p:=⟨w.heap.size,0,E⟩) (by simp) _) _ (by omega)
 case stop=>
  rintro D c pre W hD hSp ⟨rfl,h3,h5,h6⟩ hK;have H6:=Lq7 h6;have HS:=Lq7 hSp
  gi_wp2_with fail
  refine⟨by simp,.inl ⟨_,_,rfl,run_takeDeferred hK,?_⟩⟩;have hc:(W.putObj D (.deferred E)).cell? ⟨w.heap.size,0,E⟩=G (.bool false):=by
   rw[G1 (by simp;omega)];exact h3
  exact⟨.bool false,by simp[results,Tryz.results288,go_sem,hc],A0 H6.out.symm,Ie h5 _ (by omega)⟩
end Go.Proofs.YtlbbbapiklendaaGreatDoor
namespace Go.Proofs.YtlbbbapiklendaaGreatDoor
open Go.Value renaming string->F,pointer->H
open Option renaming some->G,none->E
open Go Go.RowKit
open Go.Lib renaming hid->Lq7
set_option maxRecDepth 100000
set_option maxHeartbeats 16000000
structure LabelP where
 pkg:List UInt8
 name:List UInt8
def cutColon:List UInt8->Option (List UInt8×List UInt8)
 | []=>E
 | c::t=>if c=58 then G ([],t) else(cutColon t).map fun r=>(c::r.1,r.2)
def takenT:List UInt8:=[32,110,97,109,101,32,112,107,103,32,108,101,110,32,106,111,105,110,32,108,105,110,101,115,32,115,111,114,116,101,100,32,115,116,114,32,114,101,112,108,97,99,101,32,115,116,101,109,32,101,120,116,32,98,97,115,101,32,103,108,111,98,32,115,101,108,101,99,116,32,97,99,116,105,111,110,32,102,105,108,101,115,32,112,97,116,104,32,111,117,116,32,103,105,118,101,32,116,114,117,101,32,102,97,108,115,101,32,110,111,110,101,32]
def hasIn(p:List UInt8):List UInt8->Bool
 | []=>p.isEmpty
 | c::t=>p.isPrefixOf (c::t)||hasIn p t
def E0(s:List UInt8):Bool:=hasIn (32::s++[32]) takenT
theorem Tj(s p):Lib.contains s p=hasIn p s:=by
 unfold Lib.contains
 induction s with
 | nil=>
  unfold Lib.index hasIn;cases p.isEmpty<;>rfl
 | cons c t ih=>
  unfold Lib.index hasIn;cases h:p.isPrefixOf (c::t) with
  | true=>simp
  | false=>
   rw[if_neg (by simp),Bool.false_or,<-ih];have hg:=Lib.index_ge t p;by_cases h1:Lib.index t p = -1
   ·rw[if_pos (by rw[h1];rfl),h1]
   ·rw[if_neg (by simpa using h1)];have:0<=Lib.index t p:=(by omega);rw[decide_eq_true this,decide_eq_true (by omega)]
theorem Ih(c t):Bd c (c::t)=[]::Bd c t:=by simp[Bd]
theorem I8{c x}(h:x≠c)(t):∃a l,Bd c t=a::l/\Bd c (x::t)=(x::a)::l:=by
 refine⟨(Bd c t).headD [],(Bd c t).tail,(O1 c t).symm,?_⟩;rw[Bd,if_neg h]
def glue:List (List UInt8)->List UInt8
 | []=>[]
 | x::l=>if l=[] then x else x++47::glue l
theorem Xf(x):glue [x]=x:=by simp[glue]
theorem Ack(x y l):glue (x::y::l)=x++47::glue (y::l):=by
 rw[glue,if_neg (by simp)]
theorem Xg(s):glue (Bd 47 s)=s:=by
 induction s with
 | nil=>rfl
 | cons x t ih=>
  by_cases hx:x=47
  ·subst hx;rw[Ih,glue,if_neg (Kk _ _),ih];rfl
  ·obtain⟨a,l,h1,h2⟩:=I8 hx t;rw[h1] at ih;rw[h2];cases l with
   | nil=>rw[Xf] at ih |-;rw[ih]
   | cons y l=>rw[Ack] at ih |-;rw[List.cons_append,ih]
def Ni(s:List UInt8):List UInt8:=if Ee s then glue (Bd 47 s).dropLast else []
theorem Acl{s}(hl:(Bd 47 s).length=1):Ni s=[]:=by
 unfold Ni;split
 ·obtain⟨x,hx⟩:=List.length_eq_one_iff.1 hl;rw[hx];rfl
 ·rfl
theorem dirOf_up{s}(h:Ee s=true):Ni s=glue (Bd 47 s).dropLast:=by unfold Ni;rw[if_pos h]
/-! What else the packages ask of paths. -/
theorem Uf(c a b):Bd c (a++c::b)=Bd c a++Bd c b:=by
 induction a with
 | nil=>rw[List.nil_append,Ih];rfl
 | cons x t ih=>
  by_cases hx:x=c
  ·subst hx;rw[List.cons_append,Ih,Ih,ih,List.cons_append]
  ·obtain⟨u,l,h1,h2⟩:=I8 hx (t++c::b);obtain⟨u',l',h3,h4⟩:=I8 hx t;rw[List.cons_append,h2,h4];rw[h1,h3,List.cons_append] at ih;injection ih with e1 e2;rw[e1,e2,List.cons_append]
def Fm(s:List UInt8):List UInt8:=if Ee s then(Bd 47 s).getLast (Kk 47 s) else []
theorem path_one{s}(h:Ee s=true)(hl:(Bd 47 s).length=1):Fm s=s:=by
 unfold Fm;rw[if_pos h];obtain⟨x,hx⟩:=List.length_eq_one_iff.1 hl;have h1:=Xg s;rw[hx,Xf] at h1;simp only[hx,List.getLast_singleton];exact h1
theorem cut_last{c}(x y)(h:c∉y):Bd c (x++c::y)=Bd c x++[y]:=by
 rw[Uf,L5 c y h]
theorem Qq(s:ByteArray)(j:Nat)(h:j<s.size):s.data[j]! = s[j]:=getElem!_pos s.data j h
theorem last_cutP(s):(Lib.lastIndexByte s 47 = -1/\Bd 47 s.data.toList=[s.data.toList])\/∃i:Nat,i<s.size/\Lib.lastIndexByte s 47=i/\Bd 47 s.data.toList=Bd 47 (s.data.toList.take i)++[s.data.toList.drop (i+1)]:=by
 have aC:∀k,(∀j,k<=j->j<s.size->((s.data[j]!).toNat:Int)≠47)->(47:UInt8)∉s.data.toList.drop k:=by
  intro k h hm;obtain⟨j,hj,e⟩:=List.mem_iff_getElem.1 hm;rw[List.length_drop,Al] at hj;rw[List.getElem_drop] at e;have hb:=Qq s (k+j) (by omega);have:s[k+j]=47:=e;refine h (k+j) (by omega) (by omega) ?_;rw[hb,this];rfl
 rcases Lib.lastIndexByte_spec s 47 with⟨e,hn⟩|⟨i,hi,e,hc,hn⟩
 ·left
  refine⟨e,L5 _ _ ?_⟩;have:=aC 0 (fun j _ h=>hn j h)
  simpa using this
 ·right
  refine⟨i,hi,e,?_⟩;rw[Qq s i hi] at hc;have hc':s[i]=47:=UInt8.toNat_inj.1 (show(s[i]).toNat=47 by omega);rw[<-cut_last _ _ (aC (i+1) (fun j h=>hn j (by omega)))];refine congrArg _ ?_;have:s.data.toList[i]'(by rw[Al];exact hi)=47:=hc';rw[<-this,<-List.drop_eq_getElem_cons,List.take_append_drop]
theorem Zu{s}(h:Ee s=false):Ni s=[]/\Fm s=[]:=by
 unfold Ni Fm;rw[h];exact⟨rfl,rfl⟩
theorem Vz{s}(h:Ee s=true)(hc:Bd 47 s=[s]):Ni s=[]/\Fm s=s:=by
 have hl:(Bd 47 s).length=1:=(by rw[hc];rfl);exact⟨Acl hl,path_one h hl⟩
theorem Zv{s a b}(h:Ee s=true)(hc:Bd 47 s=Bd 47 a++[b]):Ni s=a/\Fm s=b:=by
 refine⟨?_,?_⟩
 ·rw[dirOf_up h,hc,List.dropLast_concat,Xg]
 ·unfold Fm;rw[if_pos h];generalize hg:(Bd 47 s).getLast (Kk 47 s)=z;have h2:=List.dropLast_concat_getLast (Kk 47 s);rw[hg,hc,List.dropLast_concat] at h2;exact List.singleton_inj.1 (List.append_cancel_left h2)
theorem Abb(s:ByteArray)(i:Nat):(s.extract 0 i).data.toList=s.data.toList.take i:=by simp[ByteArray.data_extract]
def PCut(s:ByteArray)(w:World)(e:Ending)(w':World):Prop:=∃d b:ByteArray,e = .returned (.tuple #[F d,F b])/\d.data.toList=Ni s.data.toList/\b.data.toList=Fm s.data.toList/\Below w.heap.size w w'
theorem cut_any(s w)(hs:s.size<4294967281):
  Calls Tryz.prog 290 #[F s] w (PCut s w):=by
 have HM:=Lq7 (Kw s w (by omega));cases hok:Ee s.data.toList with
 | false=>
  rw[hok] at HM;have Hb:=Lq7 (Zu hok);go_enter Tryz.func290,Tryz.ntmps290;go_wp2_with fail;refine HM.out.mono ?_;rintro e w1 ⟨rfl,aA⟩;have aB:=Lq7 aA;go_wp2_with fail;exact bodyPost_ret (v:=.tuple #[F ⟨#[]⟩,F ⟨#[]⟩]) (by simp[results,Tryz.results290,go_sem]) rfl ⟨_,_,rfl,Hb.out.1.symm,Hb.out.2.symm,aB.out⟩
 | true=>
  rw[hok] at HM;rcases last_cutP s with⟨e,hc⟩|⟨i,hi,e,hc⟩
  ·have Hd:=Lq7 (Vz hok hc);go_enter Tryz.func290,Tryz.ntmps290;go_wp2_with fail;refine HM.out.mono ?_;rintro e' w1 ⟨rfl,aA⟩;have aB:=Lq7 aA;go_wp2_with fail;refine(Tryz.strings_LastIndexByte s 47 (by omega) _).mono ?_;rintro e' w2 ⟨rfl,hw⟩;have hw:=hw.symm;subst hw;rw[e];go_wp2_with fail;exact bodyPost_ret (v:=.tuple #[F ⟨#[]⟩,F s]) (by simp[results,Tryz.results290,go_sem]) rfl ⟨_,_,rfl,Hd.out.1.symm,Hd.out.2.symm,aB.out⟩
  ·have Hd:=Lq7 (Zv hok hc);go_enter Tryz.func290,Tryz.ntmps290;go_wp2_with fail;refine HM.out.mono ?_;rintro e' w1 ⟨rfl,aA⟩;have aB:=Lq7 aA;go_wp2_with fail;refine(Tryz.strings_LastIndexByte s 47 (by omega) _).mono ?_;rintro e' w2 ⟨rfl,hw⟩;have hw:=hw.symm;subst hw;rw[e];go_wp2_with fail
   go_quiet (fail)
   go_wp2_with fail;exact bodyPost_ret (v:=.tuple #[F (s.extract 0 i),F (s.extract (i+1) s.size)]) (by simp[results,Tryz.results290,go_sem]) rfl ⟨_,_,rfl,by rw[Hd.out.1,Abb],by rw[Hd.out.2,Ja],Cy aB.out nq⟩
theorem Qr(s w)(hs:s.size<4294967281):
  Calls Tryz.prog 279 #[F s] w (fun e w'=>∃b:ByteArray,e = .returned (F b)/\b.data.toList=Fm s.data.toList/\Below w.heap.size w w'):=by
 have HC:=Lq7 (cut_any s w hs);go_enter Tryz.func279,Tryz.ntmps279;go_wp2_with fail;refine HC.out.mono ?_;rintro e w1 ⟨d,b,rfl,hd,hb,aA⟩;have H1:=Lq7 (And.intro hb aA);go_wp2_with fail;go_ret;exact⟨_,rfl,H1.out.1,H1.out.2⟩
end Go.Proofs.YtlbbbapiklendaaGreatDoor
