/-
  The walk of the document's Texts of a value that may be:its texts,or none. (And what it stands on.)
-/
import Derived.Sort.Walk0
import Derived.Test.YtkehdallfohjfaaGreatDoorMGreatX
import Derived.Test.YtkehdallfohjfaaGreatDoorMOwnLow
import Derived.Test.YtkehdallfohjfaaGreatDoorMHeldSkip
import Derived.Test.YtkehdallfohjfaaGreatDoorGx
namespace Go.Proofs.YtkehdallfohjfaaGreatDoor
open Go Go.RowKit
open List renaming getElem?_eq_getElem->lgE,mem_of_getElem? -> lgM,length_nil->lnN,take_add_one->ltA,take_of_length_le->ltL,length_map->lnM,length_take->lnT
open Nat renaming le_refl->nlr,zero_le->nlz,add_zero->naz
open Go.Lib renaming hid->Lq7
open Go.Act renaming put->aP
open And renaming intro->aIn
open Go.RowKit.Below renaming refl->bRf
open Bool renaming and_eq_true->bAt
set_option maxRecDepth 100000
set_option maxHeartbeats 16000000
theorem Mj{p l}(h:risesGo p l=true){j x}(hx:l[j]? = some x):x.size<=65536/\∀(i:Nat) (y:ByteArray),j=i+1->l[i]? = some y->Op.bytesLess y.toList x.toList=true:=by
 induction l generalizing p j with
 | nil=>simp at hx
 | cons s t ih=>
  rw[D9,bAt,bAt,decide_eq_true_eq] at h;cases j with
  | zero=>simp at hx;subst hx;exact⟨h.1.1,fun i y hi=>by omega⟩
  | succ j=>
   have hx':t[j]? = some x:=(by simpa using hx);obtain⟨h1,h2⟩:=ih h.2 hx';refine⟨h1,fun i y hi hy=>?_⟩;cases i with
   | zero=>
    obtain rfl:j=0:=(by omega);simp at hy;subst hy;cases t with
    | nil=>simp at hx'
    | cons u t=>
     simp at hx';subst hx';have h3:=h.2;rw[D9,bAt,bAt] at h3;exact h3.1.2
   | succ i=>exact h2 i y (by omega) (by simpa using hy)
theorem less_not{x y:ByteArray}(h:Op.bytesLess y.toList x.toList=true):Op.bytesLess x.toList y.toList=false/\¬x.toList=y.toList:=by
 rw[Go.Proofs.bytesLess_eq,decide_eq_true_eq] at h;refine⟨?_,fun e=>?_⟩
 ·rw[Go.Proofs.bytesLess_eq,decide_eq_false_iff_not];exact List.lt_asymm h
 ·rw[e] at h;exact List.lt_irrefl _ h
theorem Dz{s:ByteArray}(h:s.toList.isEmpty=true):s=⟨#[]⟩:=by
 have h1:s.toList=[]:=(by simpa using h);rw[Lib.toList_data] at h1;exact bytes_ext h1
theorem keys_any(k n1:Int)(s:ByteArray)(l:List Vl)(ks:List ByteArray)(hlk:l.length=ks.length)(hri:risesL ks=true)(a1:Option Addr)(c1:Nat)(a2:Option Addr)(c2:Nat)(w:World)(hk:B9 w a2 ks):
  Calls Tryz.prog 106 #[.agg #[.int .i64 k,.int .i64 n1,.string s,.slice a1 l.length c1,.slice a2 ks.length c2]] w (PYes w):=by
 rw[hlk];unfold risesL at hri;rw[bAt,decide_eq_true_eq] at hri;obtain⟨hgo,hl⟩:=hri;have hba:Below w.heap.size w (w.alloc (.cells #[.int .i64 k,.int .i64 n1,.string s,.slice a1 ks.length c1,.slice a2 ks.length c2] 25)):=(bRf _ w).alloc (nlr _) _;have H0:=Lq7 (aIn (heap_alloc_new w (.cells #[.int .i64 k,.int .i64 n1,.string s,.slice a1 ks.length c1,.slice a2 ks.length c2] 25)) hba);have Hk:=Lq7 hk;have aD:=Lq7 hgo;go_enter Tryz.func106,Tryz.ntmps106;go_wp2_with fail;generalize World.alloc _ _=W0 at H0 |-
 go_loopw [14] (fun i wr=>∃j:Nat,i = .int .i64 j/\j<=ks.length/\Hid (wr.heap[w.heap.size]? = some (.cells #[.int .i64 k,.int .i64 n1,.string s,.slice a1 ks.length c1,.slice a2 ks.length c2] 25 (0,0))/\Below w.heap.size w wr)) (fun i _=>ks.length-(intOf i).toNat)
 case atStart=>exact⟨0,rfl,nlz _,H0⟩
 case round=>
  obtain⟨j,rfl,hj,aB⟩:=hrel;obtain⟨q0,q1,q2,q3,q4,q5,-⟩:=Aa aB.out.1;by_cases hlt:j<ks.length
  ·have aE:Below wr.heap.size wr wr.drew:=(bRf _ wr).drew;have H2:=Lq7 (aIn (stays aB.out.1 aE) (aB.out.2.trans (aE.mono aB.out.2.size)));cases j with
   | zero=>
    obtain⟨b,off,aC,hc⟩:=(Hk.out.below H2.out.2).at hlt;subst aC;have hsz:=(Mj aD.out (lgE hlt)).1;generalize ks[0]=x at hc hsz;rw[naz] at hc;have hbl:=Ar hc;have hbig:¬(65536:Int)<x.size:=(by omega);go_wp2_with fail;refine A8 (.s 0 (.s 1 (.s 2 (.s 3 (.s 4 (.s 5 (.s 6 (.s 7 (.s 8 (.s 9 (.s 10 (.s 11 (.s 12 (.s 13 (.s 14 (.s 15 (.s 16 (.s 17 (.s 18 (.s 19 (.s 20 (.s 21 (.s 22 (.s 23 (.s 24 .nil))))))))))))))))))))))))) 99 (fun W'=>Below wr.drew.heap.size wr.drew W') (bRf _ _) ?_;generalize wr.drew=Wd at *;refine A6 (.pointer (some ⟨w.heap.size,4,none⟩)) (fun W' hS=>?_) ?_
    ·obtain⟨z0,z1,z2,z3,z4,z5,-⟩:=Aa (stays H2.out.1 hS);go_simp
    refine A6 (.slice (some ⟨b,off,none⟩) ks.length c2) (fun W' hS=>?_) ?_
    ·obtain⟨z0,z1,z2,z3,z4,z5,-⟩:=Aa (stays H2.out.1 hS);go_simp
    refine Ah (.int .i64 (0:Nat)) ?_;refine Ah (.pointer (some ⟨b,off,none⟩)) ?_;refine A6 (.string x) (fun W' hS=>?_) ?_
    ·have z0:=(hS.cell (p:=⟨b,off,none⟩) hbl).trans hc;go_simp
    refine Ah (.int .i64 x.size) ?_;refine Ah (.bool false) ?_;refine Ah (.bool false) ?_;refine Ah (.int .i64 (0:Nat)) ?_;refine Ah (.bool false) ?_;refine Ah (.bool false) ?_;refine Aq rfl rfl ?_;(try simp only[gX,aP]);refine Aq rfl rfl ?_;(try simp only[gX,aP]);refine Aq rfl rfl ?_;(try simp only[gX,aP]);refine Aq rfl rfl ?_;(try simp only[gX,aP]);refine Aq rfl rfl ?_;(try simp only[gX,aP]);refine Aq rfl rfl ?_;(try simp only[gX,aP]);refine Aq rfl rfl ?_;(try simp only[gX,aP]);refine Aq rfl rfl ?_;(try simp only[gX,aP]);refine Aq rfl rfl ?_;(try simp only[gX,aP]);refine Aq rfl rfl ?_;(try simp only[gX,aP]);refine Aq rfl rfl ?_;(try simp only[gX,aP]);refine Aq rfl rfl ?_;(try simp only[gX,aP]);refine Ah (.bool false) ?_;refine Ah (.bool false) ?_;refine Ao ?_;(try simp only[gX,aP]);go_wp2_with fail;go_roundw
    case rel=>exact⟨0+1,by go_num,by omega,H2⟩
    case measure=>simp only[intOf];omega
   | succ j=>
    have aF:=Mj aD.out (lgE hlt);have aA:=aF.2 j _ rfl (lgE (by omega));have hsz:=aF.1;obtain⟨b,off,aC,hc⟩:=(Hk.out.below H2.out.2).at hlt;obtain⟨b',off',hb',hc'⟩:=(Hk.out.below H2.out.2).at (k:=j) (by omega);subst aC;cases hb';generalize ks[j+1]=x at hc hsz aA;generalize ks[j]=y at hc' aA;have hbl:=Ar hc;have hjn:((j+1:Nat):Int) - 1=(j:Int):=(by omega);have hbig:¬(65536:Int)<x.size:=(by omega);have hpos:(0:Int)<((j+1:Nat):Int):=(by omega);have hnn:¬((j:Int)+1<0):=(by omega);have hjl:¬ks.length<=j:=(by omega);obtain⟨hl1,hl2⟩:=less_not aA;have hwr:IntKind.i64.wrap (j:Int)=(j:Int):=by
     simp[IntKind.wrap,IntKind.signed,IntKind.bits];omega
    go_wp2_with fail;refine A8 (.s 0 (.s 1 (.s 2 (.s 3 (.s 4 (.s 5 (.s 6 (.s 7 (.s 8 (.s 9 (.s 10 (.s 11 (.s 12 (.s 13 (.s 14 (.s 15 (.s 16 (.s 17 (.s 18 (.s 19 (.s 20 (.s 21 (.s 22 (.s 23 (.s 24 .nil))))))))))))))))))))))))) 99 (fun W'=>Below wr.drew.heap.size wr.drew W') (bRf _ _) ?_;generalize wr.drew=Wd at *;refine A6 (.pointer (some ⟨w.heap.size,4,none⟩)) (fun W' hS=>?_) ?_
    ·obtain⟨z0,z1,z2,z3,z4,z5,-⟩:=Aa (stays H2.out.1 hS);go_simp
    refine A6 (.slice (some ⟨b,off,none⟩) ks.length c2) (fun W' hS=>?_) ?_
    ·obtain⟨z0,z1,z2,z3,z4,z5,-⟩:=Aa (stays H2.out.1 hS);go_simp
    refine Ah (.int .i64 (j+1:Nat)) ?_;refine Ah (.pointer (some ⟨b,off+(j+1),none⟩)) ?_;refine A6 (.string x) (fun W' hS=>?_) ?_
    ·have z0:=(hS.cell (p:=⟨b,off+(j+1),none⟩) hbl).trans hc;go_simp
    refine Ah (.int .i64 x.size) ?_;refine Ah (.bool false) ?_;refine Ah (.bool false) ?_;refine Ah (.int .i64 (j+1:Nat)) ?_;refine Ah (.bool true) ?_;refine Ah (.bool true) ?_;refine A6 (.pointer (some ⟨w.heap.size,4,none⟩)) (fun W' hS=>?_) ?_
    ·obtain⟨z0,z1,z2,z3,z4,z5,-⟩:=Aa (stays H2.out.1 hS);go_simp
    refine A6 (.slice (some ⟨b,off,none⟩) ks.length c2) (fun W' hS=>?_) ?_
    ·obtain⟨z0,z1,z2,z3,z4,z5,-⟩:=Aa (stays H2.out.1 hS);go_simp
    refine Ah (.int .i64 (j+1:Nat)) ?_;refine Ah (.pointer (some ⟨b,off+(j+1),none⟩)) ?_;refine A6 (.string x) (fun W' hS=>?_) ?_
    ·have z0:=(hS.cell (p:=⟨b,off+(j+1),none⟩) hbl).trans hc;go_simp
    refine A6 (.pointer (some ⟨w.heap.size,4,none⟩)) (fun W' hS=>?_) ?_
    ·obtain⟨z0,z1,z2,z3,z4,z5,-⟩:=Aa (stays H2.out.1 hS);go_simp
    refine A6 (.slice (some ⟨b,off,none⟩) ks.length c2) (fun W' hS=>?_) ?_
    ·obtain⟨z0,z1,z2,z3,z4,z5,-⟩:=Aa (stays H2.out.1 hS);go_simp
    refine Ah (.int .i64 (j+1:Nat)) ?_;refine Ah (.int .i64 j) ?_;refine Ah (.pointer (some ⟨b,off+j,none⟩)) ?_;refine A6 (.string y) (fun W' hS=>?_) ?_
    ·have z0:=(hS.cell (p:=⟨b,off+j,none⟩) hbl).trans hc';go_simp
    refine Ah (.bool false) ?_;refine Ah (.bool false) ?_;refine Ah (.bool false) ?_;refine Ao ?_;(try simp only[gX,aP]);go_wp2_with fail;go_roundw
    case rel=>exact⟨j+1+1,by go_num,by omega,H2⟩
    case measure=>simp only[intOf];omega
  ·go_wp2_with fail;go_ret;exact⟨rfl,aB.out.2⟩
def Fw(b:Bool)(w:World)(e:Ending)(w':World):Prop:=e = .returned (.bool b)/\Below w.heap.size w w'
def Ii(ks:List ByteArray):Nat->Option ByteArray
 | 0=>none
 | j+1=>ks[j]?
theorem P9{ks}(h:0<ks.length):risesGo (Ii ks 0) (ks.drop 0)=(decide (ks[0].size<=65536)&&risesGo (Ii ks 1) (ks.drop 1)):=by
 rw[List.drop_eq_getElem_cons h,D9];show(decide _&&true&&risesGo (some ks[0]) (ks.drop 1))=_;rw[Bool.and_true,Ii,lgE h]
theorem Qa{ks j}(h:j+1<ks.length):risesGo (Ii ks (j+1)) (ks.drop (j+1))=(decide (ks[j+1].size<=65536)&&Op.bytesLess (ks[j]'(by omega)).toList ks[j+1].toList&&risesGo (Ii ks (j+2)) (ks.drop (j+2))):=by
 rw[List.drop_eq_getElem_cons h,D9,Ii,lgE (by omega),Ii,lgE h]
theorem not_less{x y:ByteArray}(h:Op.bytesLess y.toList x.toList=false):Op.bytesLess x.toList y.toList=true\/x.toList=y.toList:=by
 rw[Go.Proofs.bytesLess_eq,decide_eq_false_iff_not] at h;rw[Go.Proofs.bytesLess_eq,decide_eq_true_eq];rcases List.le_iff_lt_or_eq.1 (List.not_lt.1 h) with h1|h1
 ·exact .inl h1
 ·exact .inr h1
theorem keysx_eq(k n1 s ks)(hl:ks.length<=140737488355328)(hz:∀x∈ks,x.size<=9223372036854775807)(a1 c1 a2 c2 w)(hk:B9 w a2 ks):
  Calls Tryz.prog 106 #[.agg #[.int .i64 k,.int .i64 n1,.string s,.slice a1 ks.length c1,.slice a2 ks.length c2]] w (Fw (risesGo none ks) w):=by
 have aE:Below w.heap.size w (w.alloc (.cells #[.int .i64 k,.int .i64 n1,.string s,.slice a1 ks.length c1,.slice a2 ks.length c2] 25)):=(bRf _ w).alloc (nlr _) _;have H0:=Lq7 (aIn (heap_alloc_new w (.cells #[.int .i64 k,.int .i64 n1,.string s,.slice a1 ks.length c1,.slice a2 ks.length c2] 25)) aE);have Hk:=Lq7 hk;have Hz:=Lq7 hz;clear hk aE hz;generalize hR:risesGo none ks=R;have HR:=Lq7 hR;clear hR;go_enter Tryz.func106,Tryz.ntmps106;go_wp2_with fail;generalize World.alloc _ _=W0 at H0 |-
 go_loopw [14] (fun i wr=>∃j:Nat,i = .int .i64 j/\j<=ks.length/\Hid (risesGo (Ii ks j) (ks.drop j)=R)/\Hid (wr.heap[w.heap.size]? = some (.cells #[.int .i64 k,.int .i64 n1,.string s,.slice a1 ks.length c1,.slice a2 ks.length c2] 25 (0,0))/\Below w.heap.size w wr)) (fun i _=>ks.length-(intOf i).toNat)
 case atStart=>exact⟨0,rfl,nlz _,Lq7 (by rw[List.drop_zero];exact HR.out),H0⟩
 case round=>
  obtain⟨j,rfl,hj,aC,aA⟩:=hrel;obtain⟨q0,q1,q2,q3,q4,q5,-⟩:=Aa aA.out.1;by_cases hlt:j<ks.length
  ·have aH:Below wr.heap.size wr wr.drew:=(bRf _ wr).drew;have H2:=Lq7 (aIn (stays aA.out.1 aH) (aA.out.2.trans (aH.mono aA.out.2.size)));cases j with
   | zero=>
    obtain⟨b,off,aF,hc⟩:=(Hk.out.below H2.out.2).at hlt;subst aF;have hsz:=Hz.out _ (List.getElem_mem hlt);have hg:=aC.out;rw[P9 hlt] at hg;have Hg:=Lq7 hg;clear hg aC;generalize ks[0]=x at hc hsz Hg;rw[naz] at hc;have hbl:=Ar hc;by_cases hbig:(65536:Int)<x.size
    ·have aD:Hid (R=false):=Lq7 (by rw[<-Hg.out,decide_eq_false (by omega)];rfl);clear Hg hsz;go_wp2_with fail;refine Cu (.s 0 (.s 1 (.s 2 (.s 3 (.s 4 (.s 5 (.s 6 (.s 7 (.s 8 (.s 9 (.s 10 (.s 11 (.s 12 (.s 13 (.s 14 (.s 15 (.s 16 (.s 17 (.s 18 (.s 19 (.s 20 (.s 21 (.s 22 (.s 23 (.s 24 .nil))))))))))))))))))))))))) 99 (fun W'=>Below wr.drew.heap.size wr.drew W') (by kernel_rfl) (by kernel_rfl) (fun c a d v w h=>by cases d<;>exact h) (bRf _ _) ?_
     clear q0 q1 q2 q3 q4 q5 aA;generalize wr.drew=Wd at *;refine Ad (.pointer (some ⟨w.heap.size,4,none⟩)) rfl rfl (fun W' hS=>?_) ?_
     ·obtain⟨z0,z1,z2,z3,z4,z5,-⟩:=Aa (stays H2.out.1 hS);clear hS;go_simp
     (try simp only[gX,aP]);refine Ad (.slice (some ⟨b,off,none⟩) ks.length c2) rfl rfl (fun W' hS=>?_) ?_
     ·obtain⟨z0,z1,z2,z3,z4,z5,-⟩:=Aa (stays H2.out.1 hS);clear hS;go_simp
     (try simp only[gX,aP]);refine Ad (.int .i64 (0:Nat)) rfl rfl (fun W' hS=>?_) ?_
     ·go_simp
     (try simp only[gX,aP]);refine Ad (.pointer (some ⟨b,off,none⟩)) rfl rfl (fun W' hS=>?_) ?_
     ·go_simp
     (try simp only[gX,aP]);refine Ad (.string x) rfl rfl (fun W' hS=>?_) ?_
     ·have z0:=(hS.cell (p:=⟨b,off,none⟩) hbl).trans hc;clear hS;go_simp
     (try simp only[gX,aP]);refine Ad (.int .i64 x.size) rfl rfl (fun W' hS=>?_) ?_
     ·go_simp
     (try simp only[gX,aP]);refine Ad (.bool true) rfl rfl (fun W' hS=>?_) ?_
     ·go_simp
     (try simp only[gX,aP]);refine Ad (.bool true) rfl rfl (fun W' hS=>?_) ?_
     ·go_simp
     (try simp only[gX,aP]);refine Aq rfl rfl ?_;(try simp only[gX,aP]);refine Aq rfl rfl ?_;(try simp only[gX,aP]);refine Aq rfl rfl ?_;(try simp only[gX,aP]);refine Aq rfl rfl ?_;(try simp only[gX,aP]);refine Aq rfl rfl ?_;(try simp only[gX,aP]);refine Aq rfl rfl ?_;(try simp only[gX,aP]);refine Aq rfl rfl ?_;(try simp only[gX,aP]);refine Aq rfl rfl ?_;(try simp only[gX,aP]);refine Aq rfl rfl ?_;(try simp only[gX,aP]);refine Aq rfl rfl ?_;(try simp only[gX,aP]);refine Aq rfl rfl ?_;(try simp only[gX,aP]);refine Aq rfl rfl ?_;(try simp only[gX,aP]);refine Aq rfl rfl ?_;(try simp only[gX,aP]);refine Aq rfl rfl ?_;(try simp only[gX,aP]);refine Aq rfl rfl ?_;(try simp only[gX,aP]);refine Aq rfl rfl ?_;(try simp only[gX,aP]);refine Ad (.bool true) rfl rfl (fun W' hS=>?_) ?_
     ·go_simp
     (try simp only[gX,aP]);refine Ao ?_;(try simp only[gX,aP]);go_wp2_with fail;go_ret;exact⟨congrArg (fun z=>Ending.returned (Value.bool z)) aD.out.symm,H2.out.2⟩
    ·have aB:Hid (risesGo (Ii ks (0+1)) (ks.drop (0+1))=R):=Lq7 (by have:=Hg.out;rwa [decide_eq_true (by omega),Bool.true_and] at this);clear Hg hsz;go_wp2_with fail;refine Cu (.s 0 (.s 1 (.s 2 (.s 3 (.s 4 (.s 5 (.s 6 (.s 7 (.s 8 (.s 9 (.s 10 (.s 11 (.s 12 (.s 13 (.s 14 (.s 15 (.s 16 (.s 17 (.s 18 (.s 19 (.s 20 (.s 21 (.s 22 (.s 23 (.s 24 .nil))))))))))))))))))))))))) 99 (fun W'=>Below wr.drew.heap.size wr.drew W') (by kernel_rfl) (by kernel_rfl) (fun c a d v w h=>by cases d<;>exact h) (bRf _ _) ?_
     clear q0 q1 q2 q3 q4 q5 aA;generalize wr.drew=Wd at *;refine Ad (.pointer (some ⟨w.heap.size,4,none⟩)) rfl rfl (fun W' hS=>?_) ?_
     ·obtain⟨z0,z1,z2,z3,z4,z5,-⟩:=Aa (stays H2.out.1 hS);clear hS;go_simp
     (try simp only[gX,aP]);refine Ad (.slice (some ⟨b,off,none⟩) ks.length c2) rfl rfl (fun W' hS=>?_) ?_
     ·obtain⟨z0,z1,z2,z3,z4,z5,-⟩:=Aa (stays H2.out.1 hS);clear hS;go_simp
     (try simp only[gX,aP]);refine Ad (.int .i64 (0:Nat)) rfl rfl (fun W' hS=>?_) ?_
     ·go_simp
     (try simp only[gX,aP]);refine Ad (.pointer (some ⟨b,off,none⟩)) rfl rfl (fun W' hS=>?_) ?_
     ·go_simp
     (try simp only[gX,aP]);refine Ad (.string x) rfl rfl (fun W' hS=>?_) ?_
     ·have z0:=(hS.cell (p:=⟨b,off,none⟩) hbl).trans hc;clear hS;go_simp
     (try simp only[gX,aP]);refine Ad (.int .i64 x.size) rfl rfl (fun W' hS=>?_) ?_
     ·go_simp
     (try simp only[gX,aP]);refine Ad (.bool false) rfl rfl (fun W' hS=>?_) ?_
     ·go_simp
     (try simp only[gX,aP]);refine Ad (.bool false) rfl rfl (fun W' hS=>?_) ?_
     ·go_simp
     (try simp only[gX,aP]);refine Ad (.int .i64 (0:Nat)) rfl rfl (fun W' hS=>?_) ?_
     ·go_simp
     (try simp only[gX,aP]);refine Ad (.bool false) rfl rfl (fun W' hS=>?_) ?_
     ·go_simp
     (try simp only[gX,aP]);refine Ad (.bool false) rfl rfl (fun W' hS=>?_) ?_
     ·go_simp
     (try simp only[gX,aP]);refine Aq rfl rfl ?_;(try simp only[gX,aP]);refine Aq rfl rfl ?_;(try simp only[gX,aP]);refine Aq rfl rfl ?_;(try simp only[gX,aP]);refine Aq rfl rfl ?_;(try simp only[gX,aP]);refine Aq rfl rfl ?_;(try simp only[gX,aP]);refine Aq rfl rfl ?_;(try simp only[gX,aP]);refine Aq rfl rfl ?_;(try simp only[gX,aP]);refine Aq rfl rfl ?_;(try simp only[gX,aP]);refine Aq rfl rfl ?_;(try simp only[gX,aP]);refine Aq rfl rfl ?_;(try simp only[gX,aP]);refine Aq rfl rfl ?_;(try simp only[gX,aP]);refine Aq rfl rfl ?_;(try simp only[gX,aP]);refine Ad (.bool false) rfl rfl (fun W' hS=>?_) ?_
     ·go_simp
     (try simp only[gX,aP]);refine Ad (.bool false) rfl rfl (fun W' hS=>?_) ?_
     ·go_simp
     (try simp only[gX,aP]);refine Ao ?_;(try simp only[gX,aP]);go_wp2_with fail;go_roundw
     case rel=>exact⟨0+1,by go_num,by omega,aB,H2⟩
     case measure=>simp only[intOf];omega
   | succ j=>
    obtain⟨b,off,aF,hc⟩:=(Hk.out.below H2.out.2).at hlt;obtain⟨b',off',hb',hc'⟩:=(Hk.out.below H2.out.2).at (k:=j) (by omega);subst aF;cases hb';have hsz:=Hz.out _ (List.getElem_mem hlt);have hg:=aC.out;rw[Qa hlt] at hg;have Hg:=Lq7 hg;clear hg aC;generalize ks[j+1]=x at hc hsz Hg;generalize ks[j]=y at hc' Hg;have hbl:=Ar hc;have hjn:((j+1:Nat):Int) - 1=(j:Int):=(by omega);have hpos:(0:Int)<((j+1:Nat):Int):=(by omega);have hnn:¬((j:Int)+1<0):=(by omega);have hjl:¬ks.length<=j:=(by omega);have hwr:IntKind.i64.wrap (j:Int)=(j:Int):=by
     simp[IntKind.wrap,IntKind.signed,IntKind.bits];omega
    by_cases hbig:(65536:Int)<x.size
    ·have aD:Hid (R=false):=Lq7 (by rw[<-Hg.out,decide_eq_false (by omega)];rfl);clear Hg hsz;go_wp2_with fail;refine Cu (.s 0 (.s 1 (.s 2 (.s 3 (.s 4 (.s 5 (.s 6 (.s 7 (.s 8 (.s 9 (.s 10 (.s 11 (.s 12 (.s 13 (.s 14 (.s 15 (.s 16 (.s 17 (.s 18 (.s 19 (.s 20 (.s 21 (.s 22 (.s 23 (.s 24 .nil))))))))))))))))))))))))) 99 (fun W'=>Below wr.drew.heap.size wr.drew W') (by kernel_rfl) (by kernel_rfl) (fun c a d v w h=>by cases d<;>exact h) (bRf _ _) ?_
     clear q0 q1 q2 q3 q4 q5 aA;generalize wr.drew=Wd at *;refine Ad (.pointer (some ⟨w.heap.size,4,none⟩)) rfl rfl (fun W' hS=>?_) ?_
     ·obtain⟨z0,z1,z2,z3,z4,z5,-⟩:=Aa (stays H2.out.1 hS);clear hS;go_simp
     (try simp only[gX,aP]);refine Ad (.slice (some ⟨b,off,none⟩) ks.length c2) rfl rfl (fun W' hS=>?_) ?_
     ·obtain⟨z0,z1,z2,z3,z4,z5,-⟩:=Aa (stays H2.out.1 hS);clear hS;go_simp
     (try simp only[gX,aP]);refine Ad (.int .i64 (j+1:Nat)) rfl rfl (fun W' hS=>?_) ?_
     ·go_simp
     (try simp only[gX,aP]);refine Ad (.pointer (some ⟨b,off+(j+1),none⟩)) rfl rfl (fun W' hS=>?_) ?_
     ·go_simp
     (try simp only[gX,aP]);refine Ad (.string x) rfl rfl (fun W' hS=>?_) ?_
     ·have z0:=(hS.cell (p:=⟨b,off+(j+1),none⟩) hbl).trans hc;clear hS;go_simp
     (try simp only[gX,aP]);refine Ad (.int .i64 x.size) rfl rfl (fun W' hS=>?_) ?_
     ·go_simp
     (try simp only[gX,aP]);refine Ad (.bool true) rfl rfl (fun W' hS=>?_) ?_
     ·go_simp
     (try simp only[gX,aP]);refine Ad (.bool true) rfl rfl (fun W' hS=>?_) ?_
     ·go_simp
     (try simp only[gX,aP]);refine Aq rfl rfl ?_;(try simp only[gX,aP]);refine Aq rfl rfl ?_;(try simp only[gX,aP]);refine Aq rfl rfl ?_;(try simp only[gX,aP]);refine Aq rfl rfl ?_;(try simp only[gX,aP]);refine Aq rfl rfl ?_;(try simp only[gX,aP]);refine Aq rfl rfl ?_;(try simp only[gX,aP]);refine Aq rfl rfl ?_;(try simp only[gX,aP]);refine Aq rfl rfl ?_;(try simp only[gX,aP]);refine Aq rfl rfl ?_;(try simp only[gX,aP]);refine Aq rfl rfl ?_;(try simp only[gX,aP]);refine Aq rfl rfl ?_;(try simp only[gX,aP]);refine Aq rfl rfl ?_;(try simp only[gX,aP]);refine Aq rfl rfl ?_;(try simp only[gX,aP]);refine Aq rfl rfl ?_;(try simp only[gX,aP]);refine Aq rfl rfl ?_;(try simp only[gX,aP]);refine Aq rfl rfl ?_;(try simp only[gX,aP]);refine Ad (.bool true) rfl rfl (fun W' hS=>?_) ?_
     ·go_simp
     (try simp only[gX,aP]);refine Ao ?_;(try simp only[gX,aP]);go_wp2_with fail;go_ret;exact⟨congrArg (fun z=>Ending.returned (Value.bool z)) aD.out.symm,H2.out.2⟩
    ·cases hless:Op.bytesLess y.toList x.toList
     ·have aD:Hid (R=false):=Lq7 (by rw[<-Hg.out,hless,Bool.and_false];rfl);clear Hg hsz;have hnl:=not_less hless;clear hless;rcases hnl with aG|aG
      ·skip;go_wp2_with fail;refine Cu (.s 0 (.s 1 (.s 2 (.s 3 (.s 4 (.s 5 (.s 6 (.s 7 (.s 8 (.s 9 (.s 10 (.s 11 (.s 12 (.s 13 (.s 14 (.s 15 (.s 16 (.s 17 (.s 18 (.s 19 (.s 20 (.s 21 (.s 22 (.s 23 (.s 24 .nil))))))))))))))))))))))))) 99 (fun W'=>Below wr.drew.heap.size wr.drew W') (by kernel_rfl) (by kernel_rfl) (fun c a d v w h=>by cases d<;>exact h) (bRf _ _) ?_
       clear q0 q1 q2 q3 q4 q5 aA;generalize wr.drew=Wd at *;refine Ad (.pointer (some ⟨w.heap.size,4,none⟩)) rfl rfl (fun W' hS=>?_) ?_
       ·obtain⟨z0,z1,z2,z3,z4,z5,-⟩:=Aa (stays H2.out.1 hS);clear hS;go_simp
       (try simp only[gX,aP]);refine Ad (.slice (some ⟨b,off,none⟩) ks.length c2) rfl rfl (fun W' hS=>?_) ?_
       ·obtain⟨z0,z1,z2,z3,z4,z5,-⟩:=Aa (stays H2.out.1 hS);clear hS;go_simp
       (try simp only[gX,aP]);refine Ad (.int .i64 (j+1:Nat)) rfl rfl (fun W' hS=>?_) ?_
       ·go_simp
       (try simp only[gX,aP]);refine Ad (.pointer (some ⟨b,off+(j+1),none⟩)) rfl rfl (fun W' hS=>?_) ?_
       ·go_simp
       (try simp only[gX,aP]);refine Ad (.string x) rfl rfl (fun W' hS=>?_) ?_
       ·have z0:=(hS.cell (p:=⟨b,off+(j+1),none⟩) hbl).trans hc;clear hS;go_simp
       (try simp only[gX,aP]);refine Ad (.int .i64 x.size) rfl rfl (fun W' hS=>?_) ?_
       ·go_simp
       (try simp only[gX,aP]);refine Ad (.bool false) rfl rfl (fun W' hS=>?_) ?_
       ·go_simp
       (try simp only[gX,aP]);refine Ad (.bool false) rfl rfl (fun W' hS=>?_) ?_
       ·go_simp
       (try simp only[gX,aP]);refine Ad (.int .i64 (j+1:Nat)) rfl rfl (fun W' hS=>?_) ?_
       ·go_simp
       (try simp only[gX,aP]);refine Ad (.bool true) rfl rfl (fun W' hS=>?_) ?_
       ·go_simp
       (try simp only[gX,aP]);refine Ad (.bool true) rfl rfl (fun W' hS=>?_) ?_
       ·go_simp
       (try simp only[gX,aP]);refine Ad (.pointer (some ⟨w.heap.size,4,none⟩)) rfl rfl (fun W' hS=>?_) ?_
       ·obtain⟨z0,z1,z2,z3,z4,z5,-⟩:=Aa (stays H2.out.1 hS);clear hS;go_simp
       (try simp only[gX,aP]);refine Ad (.slice (some ⟨b,off,none⟩) ks.length c2) rfl rfl (fun W' hS=>?_) ?_
       ·obtain⟨z0,z1,z2,z3,z4,z5,-⟩:=Aa (stays H2.out.1 hS);clear hS;go_simp
       (try simp only[gX,aP]);refine Ad (.int .i64 (j+1:Nat)) rfl rfl (fun W' hS=>?_) ?_
       ·go_simp
       (try simp only[gX,aP]);refine Ad (.pointer (some ⟨b,off+(j+1),none⟩)) rfl rfl (fun W' hS=>?_) ?_
       ·go_simp
       (try simp only[gX,aP]);refine Ad (.string x) rfl rfl (fun W' hS=>?_) ?_
       ·have z0:=(hS.cell (p:=⟨b,off+(j+1),none⟩) hbl).trans hc;clear hS;go_simp
       (try simp only[gX,aP]);refine Ad (.pointer (some ⟨w.heap.size,4,none⟩)) rfl rfl (fun W' hS=>?_) ?_
       ·obtain⟨z0,z1,z2,z3,z4,z5,-⟩:=Aa (stays H2.out.1 hS);clear hS;go_simp
       (try simp only[gX,aP]);refine Ad (.slice (some ⟨b,off,none⟩) ks.length c2) rfl rfl (fun W' hS=>?_) ?_
       ·obtain⟨z0,z1,z2,z3,z4,z5,-⟩:=Aa (stays H2.out.1 hS);clear hS;go_simp
       (try simp only[gX,aP]);refine Ad (.int .i64 (j+1:Nat)) rfl rfl (fun W' hS=>?_) ?_
       ·go_simp
       (try simp only[gX,aP]);refine Ad (.int .i64 j) rfl rfl (fun W' hS=>?_) ?_
       ·go_simp
       (try simp only[gX,aP]);refine Ad (.pointer (some ⟨b,off+j,none⟩)) rfl rfl (fun W' hS=>?_) ?_
       ·go_simp
       (try simp only[gX,aP]);refine Ad (.string y) rfl rfl (fun W' hS=>?_) ?_
       ·have z0:=(hS.cell (p:=⟨b,off+j,none⟩) hbl).trans hc';clear hS;go_simp
       (try simp only[gX,aP]);refine Ad (.bool true) rfl rfl (fun W' hS=>?_) ?_
       ·go_simp
       (try simp only[gX,aP]);refine Ad (.bool true) rfl rfl (fun W' hS=>?_) ?_
       ·go_simp
       (try simp only[gX,aP]);refine Ad (.bool true) rfl rfl (fun W' hS=>?_) ?_
       ·go_simp
       (try simp only[gX,aP]);refine Ao ?_;(try simp only[gX,aP]);go_wp2_with fail;go_ret;exact⟨congrArg (fun z=>Ending.returned (Value.bool z)) aD.out.symm,H2.out.2⟩
      ·have hl2:(x.toList==y.toList)=true:=(by rw[aG];exact beq_self_eq_true _);go_wp2_with fail;refine Cu (.s 0 (.s 1 (.s 2 (.s 3 (.s 4 (.s 5 (.s 6 (.s 7 (.s 8 (.s 9 (.s 10 (.s 11 (.s 12 (.s 13 (.s 14 (.s 15 (.s 16 (.s 17 (.s 18 (.s 19 (.s 20 (.s 21 (.s 22 (.s 23 (.s 24 .nil))))))))))))))))))))))))) 99 (fun W'=>Below wr.drew.heap.size wr.drew W') (by kernel_rfl) (by kernel_rfl) (fun c a d v w h=>by cases d<;>exact h) (bRf _ _) ?_
       clear q0 q1 q2 q3 q4 q5 aA;generalize wr.drew=Wd at *;refine Ad (.pointer (some ⟨w.heap.size,4,none⟩)) rfl rfl (fun W' hS=>?_) ?_
       ·obtain⟨z0,z1,z2,z3,z4,z5,-⟩:=Aa (stays H2.out.1 hS);clear hS;go_simp
       (try simp only[gX,aP]);refine Ad (.slice (some ⟨b,off,none⟩) ks.length c2) rfl rfl (fun W' hS=>?_) ?_
       ·obtain⟨z0,z1,z2,z3,z4,z5,-⟩:=Aa (stays H2.out.1 hS);clear hS;go_simp
       (try simp only[gX,aP]);refine Ad (.int .i64 (j+1:Nat)) rfl rfl (fun W' hS=>?_) ?_
       ·go_simp
       (try simp only[gX,aP]);refine Ad (.pointer (some ⟨b,off+(j+1),none⟩)) rfl rfl (fun W' hS=>?_) ?_
       ·go_simp
       (try simp only[gX,aP]);refine Ad (.string x) rfl rfl (fun W' hS=>?_) ?_
       ·have z0:=(hS.cell (p:=⟨b,off+(j+1),none⟩) hbl).trans hc;clear hS;go_simp
       (try simp only[gX,aP]);refine Ad (.int .i64 x.size) rfl rfl (fun W' hS=>?_) ?_
       ·go_simp
       (try simp only[gX,aP]);refine Ad (.bool false) rfl rfl (fun W' hS=>?_) ?_
       ·go_simp
       (try simp only[gX,aP]);refine Ad (.bool false) rfl rfl (fun W' hS=>?_) ?_
       ·go_simp
       (try simp only[gX,aP]);refine Ad (.int .i64 (j+1:Nat)) rfl rfl (fun W' hS=>?_) ?_
       ·go_simp
       (try simp only[gX,aP]);refine Ad (.bool true) rfl rfl (fun W' hS=>?_) ?_
       ·go_simp
       (try simp only[gX,aP]);refine Ad (.bool true) rfl rfl (fun W' hS=>?_) ?_
       ·go_simp
       (try simp only[gX,aP]);refine Ad (.pointer (some ⟨w.heap.size,4,none⟩)) rfl rfl (fun W' hS=>?_) ?_
       ·obtain⟨z0,z1,z2,z3,z4,z5,-⟩:=Aa (stays H2.out.1 hS);clear hS;go_simp
       (try simp only[gX,aP]);refine Ad (.slice (some ⟨b,off,none⟩) ks.length c2) rfl rfl (fun W' hS=>?_) ?_
       ·obtain⟨z0,z1,z2,z3,z4,z5,-⟩:=Aa (stays H2.out.1 hS);clear hS;go_simp
       (try simp only[gX,aP]);refine Ad (.int .i64 (j+1:Nat)) rfl rfl (fun W' hS=>?_) ?_
       ·go_simp
       (try simp only[gX,aP]);refine Ad (.pointer (some ⟨b,off+(j+1),none⟩)) rfl rfl (fun W' hS=>?_) ?_
       ·go_simp
       (try simp only[gX,aP]);refine Ad (.string x) rfl rfl (fun W' hS=>?_) ?_
       ·have z0:=(hS.cell (p:=⟨b,off+(j+1),none⟩) hbl).trans hc;clear hS;go_simp
       (try simp only[gX,aP]);refine Ad (.pointer (some ⟨w.heap.size,4,none⟩)) rfl rfl (fun W' hS=>?_) ?_
       ·obtain⟨z0,z1,z2,z3,z4,z5,-⟩:=Aa (stays H2.out.1 hS);clear hS;go_simp
       (try simp only[gX,aP]);refine Ad (.slice (some ⟨b,off,none⟩) ks.length c2) rfl rfl (fun W' hS=>?_) ?_
       ·obtain⟨z0,z1,z2,z3,z4,z5,-⟩:=Aa (stays H2.out.1 hS);clear hS;go_simp
       (try simp only[gX,aP]);refine Ad (.int .i64 (j+1:Nat)) rfl rfl (fun W' hS=>?_) ?_
       ·go_simp
       (try simp only[gX,aP]);refine Ad (.int .i64 j) rfl rfl (fun W' hS=>?_) ?_
       ·go_simp
       (try simp only[gX,aP]);refine Ad (.pointer (some ⟨b,off+j,none⟩)) rfl rfl (fun W' hS=>?_) ?_
       ·go_simp
       (try simp only[gX,aP]);refine Ad (.string y) rfl rfl (fun W' hS=>?_) ?_
       ·have z0:=(hS.cell (p:=⟨b,off+j,none⟩) hbl).trans hc';clear hS;go_simp
       (try simp only[gX,aP]);refine Ad (.bool true) rfl rfl (fun W' hS=>?_) ?_
       ·go_simp
       (try simp only[gX,aP]);refine Ad (.bool true) rfl rfl (fun W' hS=>?_) ?_
       ·go_simp
       (try simp only[gX,aP]);refine Ad (.bool true) rfl rfl (fun W' hS=>?_) ?_
       ·go_simp
       (try simp only[gX,aP]);refine Ao ?_;(try simp only[gX,aP]);go_wp2_with fail;go_ret;exact⟨congrArg (fun z=>Ending.returned (Value.bool z)) aD.out.symm,H2.out.2⟩
     ·have aB:Hid (risesGo (Ii ks (j+1+1)) (ks.drop (j+1+1))=R):=Lq7 (by have:=Hg.out;rwa [decide_eq_true (by omega),hless,Bool.true_and,Bool.true_and] at this);clear Hg hsz;obtain⟨aG,hl2⟩:=less_not hless;go_wp2_with fail;refine Cu (.s 0 (.s 1 (.s 2 (.s 3 (.s 4 (.s 5 (.s 6 (.s 7 (.s 8 (.s 9 (.s 10 (.s 11 (.s 12 (.s 13 (.s 14 (.s 15 (.s 16 (.s 17 (.s 18 (.s 19 (.s 20 (.s 21 (.s 22 (.s 23 (.s 24 .nil))))))))))))))))))))))))) 99 (fun W'=>Below wr.drew.heap.size wr.drew W') (by kernel_rfl) (by kernel_rfl) (fun c a d v w h=>by cases d<;>exact h) (bRf _ _) ?_
      clear q0 q1 q2 q3 q4 q5 aA;generalize wr.drew=Wd at *;refine Ad (.pointer (some ⟨w.heap.size,4,none⟩)) rfl rfl (fun W' hS=>?_) ?_
      ·obtain⟨z0,z1,z2,z3,z4,z5,-⟩:=Aa (stays H2.out.1 hS);clear hS;go_simp
      (try simp only[gX,aP]);refine Ad (.slice (some ⟨b,off,none⟩) ks.length c2) rfl rfl (fun W' hS=>?_) ?_
      ·obtain⟨z0,z1,z2,z3,z4,z5,-⟩:=Aa (stays H2.out.1 hS);clear hS;go_simp
      (try simp only[gX,aP]);refine Ad (.int .i64 (j+1:Nat)) rfl rfl (fun W' hS=>?_) ?_
      ·go_simp
      (try simp only[gX,aP]);refine Ad (.pointer (some ⟨b,off+(j+1),none⟩)) rfl rfl (fun W' hS=>?_) ?_
      ·go_simp
      (try simp only[gX,aP]);refine Ad (.string x) rfl rfl (fun W' hS=>?_) ?_
      ·have z0:=(hS.cell (p:=⟨b,off+(j+1),none⟩) hbl).trans hc;clear hS;go_simp
      (try simp only[gX,aP]);refine Ad (.int .i64 x.size) rfl rfl (fun W' hS=>?_) ?_
      ·go_simp
      (try simp only[gX,aP]);refine Ad (.bool false) rfl rfl (fun W' hS=>?_) ?_
      ·go_simp
      (try simp only[gX,aP]);refine Ad (.bool false) rfl rfl (fun W' hS=>?_) ?_
      ·go_simp
      (try simp only[gX,aP]);refine Ad (.int .i64 (j+1:Nat)) rfl rfl (fun W' hS=>?_) ?_
      ·go_simp
      (try simp only[gX,aP]);refine Ad (.bool true) rfl rfl (fun W' hS=>?_) ?_
      ·go_simp
      (try simp only[gX,aP]);refine Ad (.bool true) rfl rfl (fun W' hS=>?_) ?_
      ·go_simp
      (try simp only[gX,aP]);refine Ad (.pointer (some ⟨w.heap.size,4,none⟩)) rfl rfl (fun W' hS=>?_) ?_
      ·obtain⟨z0,z1,z2,z3,z4,z5,-⟩:=Aa (stays H2.out.1 hS);clear hS;go_simp
      (try simp only[gX,aP]);refine Ad (.slice (some ⟨b,off,none⟩) ks.length c2) rfl rfl (fun W' hS=>?_) ?_
      ·obtain⟨z0,z1,z2,z3,z4,z5,-⟩:=Aa (stays H2.out.1 hS);clear hS;go_simp
      (try simp only[gX,aP]);refine Ad (.int .i64 (j+1:Nat)) rfl rfl (fun W' hS=>?_) ?_
      ·go_simp
      (try simp only[gX,aP]);refine Ad (.pointer (some ⟨b,off+(j+1),none⟩)) rfl rfl (fun W' hS=>?_) ?_
      ·go_simp
      (try simp only[gX,aP]);refine Ad (.string x) rfl rfl (fun W' hS=>?_) ?_
      ·have z0:=(hS.cell (p:=⟨b,off+(j+1),none⟩) hbl).trans hc;clear hS;go_simp
      (try simp only[gX,aP]);refine Ad (.pointer (some ⟨w.heap.size,4,none⟩)) rfl rfl (fun W' hS=>?_) ?_
      ·obtain⟨z0,z1,z2,z3,z4,z5,-⟩:=Aa (stays H2.out.1 hS);clear hS;go_simp
      (try simp only[gX,aP]);refine Ad (.slice (some ⟨b,off,none⟩) ks.length c2) rfl rfl (fun W' hS=>?_) ?_
      ·obtain⟨z0,z1,z2,z3,z4,z5,-⟩:=Aa (stays H2.out.1 hS);clear hS;go_simp
      (try simp only[gX,aP]);refine Ad (.int .i64 (j+1:Nat)) rfl rfl (fun W' hS=>?_) ?_
      ·go_simp
      (try simp only[gX,aP]);refine Ad (.int .i64 j) rfl rfl (fun W' hS=>?_) ?_
      ·go_simp
      (try simp only[gX,aP]);refine Ad (.pointer (some ⟨b,off+j,none⟩)) rfl rfl (fun W' hS=>?_) ?_
      ·go_simp
      (try simp only[gX,aP]);refine Ad (.string y) rfl rfl (fun W' hS=>?_) ?_
      ·have z0:=(hS.cell (p:=⟨b,off+j,none⟩) hbl).trans hc';clear hS;go_simp
      (try simp only[gX,aP]);refine Ad (.bool false) rfl rfl (fun W' hS=>?_) ?_
      ·go_simp
      (try simp only[gX,aP]);refine Ad (.bool false) rfl rfl (fun W' hS=>?_) ?_
      ·go_simp
      (try simp only[gX,aP]);refine Ad (.bool false) rfl rfl (fun W' hS=>?_) ?_
      ·go_simp
      (try simp only[gX,aP]);refine Ao ?_;(try simp only[gX,aP]);go_wp2_with fail;go_roundw
      case rel=>exact⟨j+1+1,by go_num,by omega,aB,H2⟩
      case measure=>simp only[intOf];omega
  ·have HRt:Hid (R=true):=Lq7 (by have:=aC.out;rw[List.drop_of_length_le (by omega)] at this;exact this.symm);clear aC;go_wp2_with fail;go_ret;exact⟨congrArg (fun z=>Ending.returned (Value.bool z)) HRt.out.symm,aA.out.2⟩
theorem R3(k n1 s m ks)(hm:m<=140737488355328)(hl:ks.length<=140737488355328)(hz:∀x∈ks,x.size<=9223372036854775807)(a1 c1 a2 c2 w)(hk:B9 w a2 ks):
  Calls Tryz.prog 106 #[.agg #[.int .i64 k,.int .i64 n1,.string s,.slice a1 m c1,.slice a2 ks.length c2]] w (Fw (decide (m=ks.length)&&risesGo none ks) w):=by
 by_cases h:m=ks.length
 ·subst h;rw[decide_eq_true rfl,Bool.true_and];exact keysx_eq k n1 s ks hl hz a1 c1 a2 c2 w hk
 ·rw[decide_eq_false h,Bool.false_and];have aE:Below w.heap.size w (w.alloc (.cells #[.int .i64 k,.int .i64 n1,.string s,.slice a1 m c1,.slice a2 ks.length c2] 25)):=(bRf _ w).alloc (nlr _) _;have H0:=Lq7 (aIn (heap_alloc_new w (.cells #[.int .i64 k,.int .i64 n1,.string s,.slice a1 m c1,.slice a2 ks.length c2] 25)) aE);clear hk aE hz;generalize ks.length=p at *;have h1:¬(p:Int)=(m:Int):=(by omega);have h2:((p:Int)==(m:Int))=false:=(by simpa using h1);go_enter Tryz.func106,Tryz.ntmps106;go_wp2_with fail;go_ret;exact⟨rfl,H0.out.2⟩
theorem node_told{k n s l ks}(h:Bf k n s l ks=true):
  (k=0/\n=0/\s=⟨#[]⟩/\l=[]/\ks=[])\/(k=1/\(n=0\/n=1)/\s=⟨#[]⟩/\l=[]/\ks=[])\/(k=2/\s=⟨#[]⟩/\l=[]/\ks=[])\/(k=3/\n=0/\s.size<=65536/\l=[]/\ks=[]) \/
   (k=4/\n=0/\s=⟨#[]⟩/\l.length<=1000/\ks=[])\/(k=5/\n=0/\s=⟨#[]⟩/\l.length=ks.length/\risesL ks=true):=by
 unfold Bf at h;split at h
 ·rename_i hk
  simp only[bAt,beq_iff_eq,List.isEmpty_iff] at h;exact .inl ⟨hk,h.1.1.1,Dz (by simpa using h.1.1.2),h.1.2,h.2⟩
 split at h
 ·rename_i hk
  simp only[bAt,Bool.or_eq_true,beq_iff_eq,List.isEmpty_iff] at h;exact .inr (.inl ⟨hk,h.1.1.1,Dz (by simpa using h.1.1.2),h.1.2,h.2⟩)
 split at h
 ·rename_i hk
  simp only[bAt,List.isEmpty_iff] at h;exact .inr (.inr (.inl ⟨hk,Dz (by simpa using h.1.1.2),h.1.2,h.2⟩))
 split at h
 ·rename_i hk
  simp only[bAt,beq_iff_eq,decide_eq_true_eq,List.isEmpty_iff] at h;exact .inr (.inr (.inr (.inl ⟨hk,h.1.1.1,h.1.1.2,h.1.2,h.2⟩)))
 split at h
 ·rename_i hk
  simp only[bAt,beq_iff_eq,decide_eq_true_eq,List.isEmpty_iff] at h;exact .inr (.inr (.inr (.inr (.inl ⟨hk,h.1.1.1,Dz (by simpa using h.1.1.2),h.1.2,h.2⟩))))
 split at h
 ·rename_i hk
  simp only[bAt,beq_iff_eq,List.isEmpty_iff] at h;exact .inr (.inr (.inr (.inr (.inr ⟨hk,h.1.1.1,Dz (by simpa using h.1.1.2),h.1.2,h.2⟩))))
 ·cases h
theorem Sh(k n1 s l ks)(hok:Bf k n1 s l ks=true)(F a1 c1 a2 c2 w)(hk:Ag F w a2 (Bc ks)):
  Calls Tryz.prog 56 #[.agg #[.int .i64 k,.int .i64 n1,.string s,.slice a1 l.length c1,.slice a2 ks.length c2]] w (PYes w):=by
 rcases node_told hok with⟨rfl,rfl,rfl,rfl,rfl⟩|⟨rfl,hn,rfl,rfl,rfl⟩|⟨rfl,rfl,rfl,rfl⟩|⟨rfl,rfl,hsz,rfl,rfl⟩|⟨rfl,rfl,rfl,hl,rfl⟩|⟨rfl,rfl,rfl,hlk,hri⟩
 ·clear hok;have HB:=Lq7 ((bRf _ w).alloc (nlr _) (.cells #[.int .i64 0,.int .i64 0,.string ⟨#[]⟩,.slice a1 0 c1,.slice a2 0 c2] 25));rw[lnN,lnN];go_enter Tryz.func56,Tryz.ntmps56;go_wp2_with fail;go_ret;exact⟨rfl,HB.out⟩
 ·clear hok;have HB:=Lq7 ((bRf _ w).alloc (nlr _) (.cells #[.int .i64 1,.int .i64 n1,.string ⟨#[]⟩,.slice a1 0 c1,.slice a2 0 c2] 25));rw[lnN,lnN];rcases hn with rfl|rfl
  ·go_enter Tryz.func56,Tryz.ntmps56;go_wp2_with fail;go_ret;exact⟨rfl,HB.out⟩
  ·go_enter Tryz.func56,Tryz.ntmps56;go_wp2_with fail;go_ret;exact⟨rfl,HB.out⟩
 ·clear hok;have HB:=Lq7 ((bRf _ w).alloc (nlr _) (.cells #[.int .i64 2,.int .i64 n1,.string ⟨#[]⟩,.slice a1 0 c1,.slice a2 0 c2] 25));rw[lnN,lnN];go_enter Tryz.func56,Tryz.ntmps56;go_wp2_with fail;go_ret;exact⟨rfl,HB.out⟩
 ·clear hok;have HB:=Lq7 ((bRf _ w).alloc (nlr _) (.cells #[.int .i64 3,.int .i64 0,.string s,.slice a1 0 c1,.slice a2 0 c2] 25));rw[lnN,lnN];have aF:(s.size:Int)<=65536:=(by omega);go_enter Tryz.func56,Tryz.ntmps56;go_wp2_with fail;go_ret;exact⟨rfl,HB.out⟩
 ·clear hok;have HB:=Lq7 ((bRf _ w).alloc (nlr _) (.cells #[.int .i64 4,.int .i64 0,.string ⟨#[]⟩,.slice a1 l.length c1,.slice a2 0 c2] 25));rw[lnN];generalize l.length=n at hl HB |-;have aF:(n:Int)<=1000:=(by omega);go_enter Tryz.func56,Tryz.ntmps56;go_wp2_with fail;go_ret;exact⟨rfl,HB.out⟩
 ·clear hok;have aA:Below w.heap.size w (w.alloc (.cells #[.int .i64 5,.int .i64 0,.string ⟨#[]⟩,.slice a1 l.length c1,.slice a2 ks.length c2] 25)):=(bRf _ w).alloc (nlr _) _;have HB:=Lq7 aA;have HK:=Lq7 (keys_any 5 0 ⟨#[]⟩ l ks hlk hri a1 c1 a2 c2 _ (hk.below aA).strs);have aF:(l.length:Int)<=1000:=by
   unfold risesL at hri;rw[bAt,decide_eq_true_eq] at hri;omega
  generalize l.length=n at aF HB HK hlk |-;subst hlk;go_enter Tryz.func56,Tryz.ntmps56;go_wp2_with fail;refine HK.out.mono ?_;rintro e w1 ⟨rfl,aD⟩;have Hb1:=Lq7 (HB.out.trans (aD.mono HB.out.size));go_wp2_with fail;go_ret;exact⟨rfl,Hb1.out⟩
def Nr(v:Vl):Prop:=∀(F:Nat->Prop) (a1:Option Addr) (c1:Nat) (a2:Option Addr) (c2:Nat) (w:World),Ag F w a1 (A5 v.items)->Ag F w a2 (Bc v.keys)->nodesR v=true ->
 Calls Tryz.prog 35 #[.agg #[.int .i64 v.kind,.int .i64 v.num,.string v.str,.slice a1 v.items.length c1,.slice a2 v.keys.length c2]] w (PYes w)
theorem Qn(k n1 s l ks)(hl:l.length<=140737488355328)(hit:∀x∈l,Nr x)(F a1 c1 a2 c2 w)(hr1:Ag F w a1 (A5 l))(hr2:Ag F w a2 (Bc ks))(hns:nodesRs l=true)(hok:Bf k n1 s l ks=true):
  Calls Tryz.prog 35 #[.agg #[.int .i64 k,.int .i64 n1,.string s,.slice a1 l.length c1,.slice a2 ks.length c2]] w (PYes w):=by
 have aA:Below w.heap.size w (w.alloc (.cells #[.int .i64 k,.int .i64 n1,.string s,.slice a1 l.length c1,.slice a2 ks.length c2] 25)):=(bRf _ w).alloc (nlr _) _;have H0:=Lq7 (aIn (heap_alloc_new w (.cells #[.int .i64 k,.int .i64 n1,.string s,.slice a1 l.length c1,.slice a2 ks.length c2] 25)) aA);have Hr:=Lq7 hr1;have Hit:=Lq7 hit;have Hns:=Lq7 hns;have HN:=Lq7 (fun W (h:Below w.heap.size w W)=>Sh k n1 s l ks hok F a1 c1 a2 c2 W (hr2.below h));go_enter Tryz.func35,Tryz.ntmps35;go_wp2_with fail;generalize World.alloc _ _=W0 at H0 |-
 go_loopw [7] (fun i wr=>∃j:Nat,i = .int .i64 j/\j<=l.length/\Hid (wr.heap[w.heap.size]? = some (.cells #[.int .i64 k,.int .i64 n1,.string s,.slice a1 l.length c1,.slice a2 ks.length c2] 25 (0,0))/\Below w.heap.size w wr)) (fun i _=>l.length-(intOf i).toNat)
 case atStart=>exact⟨0,rfl,nlz _,H0⟩
 case round=>
  obtain⟨j,rfl,hj,aB⟩:=hrel;obtain⟨q0,q1,q2,q3,q4,q5,-⟩:=Aa aB.out.1;by_cases hlt:j<l.length
  ·have aE:l[j]? = some l[j]:=lgE hlt;generalize l[j]=x at aE;have HC:=Lq7 (Hit.out x (lgM aE));have g1:=O1 Hns.out aE;obtain⟨xk,xn,xs,xl,xks⟩:=x;obtain⟨b,off,b1,e1,b2,e2,rfl,-,hbl,r0,r1,r2,r3,r4,hs1,hs2⟩:=(Hr.out.below aB.out.2).val aE;have HK:=Lq7 (HC.out F b1 e1 b2 e2 wr hs1 hs2 g1);go_wp2_with fail;refine HK.out.mono ?_;rintro e w2 ⟨rfl,aC⟩;have aG:=Lq7 (aIn (stays aB.out.1 aC) (aB.out.2.trans (aC.mono aB.out.2.size)));go_wp2_with fail;go_roundw
   case rel=>exact⟨j+1,by go_num,by omega,aG⟩
   case measure=>simp only[intOf];omega
  ·have aH:=Lq7 (HN.out wr aB.out.2);go_wp2_with fail;refine aH.out.mono ?_;rintro e w2 ⟨rfl,aC⟩;have Hb2:=Lq7 (aB.out.2.trans (aC.mono aB.out.2.size));go_wp2_with fail;go_ret;exact⟨rfl,Hb2.out⟩
theorem Si(v):A4 v->Nr v:=
 Vl.rec (motive_1:=fun v=>A4 v->Nr v) (motive_2:=fun l=>Bk l->∀x∈l,Nr x)
  (fun k n s l ks ih h F a1 c1 a2 c2 w hr1 hr2 hok=>by
   rw[A4] at h;rw[nodesR,bAt] at hok;exact Qn k n s l ks h.2.1 (ih h.2.2.2.2) F a1 c1 a2 c2 w hr1 hr2 hok.1 hok.2)
  (fun _ x hx=>by cases hx)
  (fun v t hv ht h x hx=>by
   rw[Bk] at h;rcases List.mem_cons.1 hx with rfl|hx
   ·exact hv h.1
   ·exact ht h.2 x hx) v
theorem check_told{v}(h:A7 v=true):cntV v<=20000/\dpV v<=60/\nodesR v=true:=by
 unfold A7 at h;obtain⟨h1,h2,h3⟩:=Hv v 1 20000 h;have h4:=(F9 v 1 20000 (by omega)).2.2 h;exact⟨by omega,by omega,h2⟩
theorem O2(k n1 s l ks)(hck:A7 (.mk k n1 s l ks)=true)(F a1 c1 a2 c2 w)(hr1:Ag F w a1 (A5 l))(hr2:Ag F w a2 (Bc ks)):
  Calls Tryz.prog 17 #[.agg #[.int .i64 k,.int .i64 n1,.string s,.slice a1 l.length c1,.slice a2 ks.length c2]] w (PYes w):=by
 have hs:=Hu hck;obtain⟨g1,g2,g3⟩:=check_told hck;have aA:Below w.heap.size w (w.alloc (.cells #[.int .i64 k,.int .i64 n1,.string s,.slice a1 l.length c1,.slice a2 ks.length c2] 25)):=(bRf _ w).alloc (nlr _) _;have H0:=Lq7 (aIn (heap_alloc_new w (.cells #[.int .i64 k,.int .i64 n1,.string s,.slice a1 l.length c1,.slice a2 ks.length c2] 25)) aA);have HM:=Lq7 (many_any _ hs F a1 c1 a2 c2 20000 _ (hr1.below aA) (hr2.below aA) g1 (by omega));have HD:=Lq7 (fun W (h:Below w.heap.size w W)=>deep_any _ hs F a1 c1 a2 c2 60 W (hr1.below h) (hr2.below h) g2 (by omega) (by omega));have HN:=Lq7 (fun W (h:Below w.heap.size w W)=>Si _ hs F a1 c1 a2 c2 W (hr1.below h) (hr2.below h) g3);generalize cntV (.mk k n1 s l ks)=cx at HM g1;generalize dpV (.mk k n1 s l ks)=dx at HD g2;go_enter Tryz.func17,Tryz.ntmps17;go_wp2_with fail;refine HM.out.mono ?_;rintro e w1 ⟨rfl,aD⟩;have H1:=Lq7 (aIn (stays H0.out.1 aD) (H0.out.2.trans (aD.mono H0.out.2.size)));have HD1:=Lq7 (HD.out w1 H1.out.2);obtain⟨q0,q1,q2,q3,q4,q5,-⟩:=Aa H1.out.1;go_wp2_with fail;refine HD1.out.mono ?_;rintro e w2 ⟨⟨d,rfl,hd0,hd1⟩,aC⟩;have H2:=Lq7 (aIn (stays H1.out.1 aC) (H1.out.2.trans (aC.mono H1.out.2.size)));have aH:=Lq7 (HN.out w2 H2.out.2);have hd60:d<=60:=(by omega);obtain⟨q0,q1,q2,q3,q4,q5,-⟩:=Aa H2.out.1;go_wp2_with fail;refine aH.out.mono ?_;rintro e w3 ⟨rfl,hb3⟩;have Hb3:=Lq7 (H2.out.2.trans (hb3.mono H2.out.2.size));go_wp2_with fail;go_ret;exact⟨rfl,Hb3.out⟩
theorem nodex_0(n1 s m p)(hs9:s.size<=9223372036854775807)(hm9:m<=140737488355328)(hp9:p<=140737488355328)(a1 c1 a2 c2 w b)(hb:b=(decide (n1=0)&&(s.toList==[])&&decide (m=0)&&decide (p=0))):
  Calls Tryz.prog 56 #[.agg #[.int .i64 0,.int .i64 n1,.string s,.slice a1 m c1,.slice a2 p c2]] w (Fw b w):=by
 by_cases hn0:n1=0
 ·subst hn0;by_cases hs0:s.toList=[]
  ·obtain rfl:s=⟨#[]⟩:=Dz (by simp[hs0]);clear hs0;by_cases hm0:m=0
   ·subst hm0;by_cases hp0:p=0
    ·subst hp0;obtain rfl:b=true:=(by rw[hb];first|(simp_all;done)|(simp_all;intros;omega));clear hb;have HB:=Lq7 ((bRf _ w).alloc (nlr _) (.cells #[.int .i64 0,.int .i64 0,.string ⟨#[]⟩,.slice a1 0 c1,.slice a2 0 c2] 25));go_enter Tryz.func56,Tryz.ntmps56;go_wp2_with fail;go_ret;exact⟨rfl,HB.out⟩
    ·have aA:¬(p:Int)=0:=(by omega);have aH:((p:Int)==0)=false:=(by simpa using aA);obtain rfl:b=false:=(by rw[hb];first|(simp_all;done)|(simp_all;intros;omega));clear hb;have HB:=Lq7 ((bRf _ w).alloc (nlr _) (.cells #[.int .i64 0,.int .i64 0,.string ⟨#[]⟩,.slice a1 0 c1,.slice a2 p c2] 25));go_enter Tryz.func56,Tryz.ntmps56;go_wp2_with fail;go_ret;exact⟨rfl,HB.out⟩
   ·have aB:¬(m:Int)=0:=(by omega);have aF:((m:Int)==0)=false:=(by simpa using aB);obtain rfl:b=false:=(by rw[hb];first|(simp_all;done)|(simp_all;intros;omega));clear hb;have HB:=Lq7 ((bRf _ w).alloc (nlr _) (.cells #[.int .i64 0,.int .i64 0,.string ⟨#[]⟩,.slice a1 m c1,.slice a2 p c2] 25));go_enter Tryz.func56,Tryz.ntmps56;go_wp2_with fail;go_ret;exact⟨rfl,HB.out⟩
  ·have hs:(s.toList==[])=false:=(by simpa using hs0);obtain rfl:b=false:=(by rw[hb];first|(simp_all;done)|(simp_all;intros;omega));clear hb;have HB:=Lq7 ((bRf _ w).alloc (nlr _) (.cells #[.int .i64 0,.int .i64 0,.string s,.slice a1 m c1,.slice a2 p c2] 25));go_enter Tryz.func56,Tryz.ntmps56;go_wp2_with fail;go_ret;exact⟨rfl,HB.out⟩
 ·have hn:(n1==0)=false:=(by simpa using hn0);obtain rfl:b=false:=(by rw[hb];first|(simp_all;done)|(simp_all;intros;omega));clear hb;have HB:=Lq7 ((bRf _ w).alloc (nlr _) (.cells #[.int .i64 0,.int .i64 n1,.string s,.slice a1 m c1,.slice a2 p c2] 25));go_enter Tryz.func56,Tryz.ntmps56;go_wp2_with fail;go_ret;exact⟨rfl,HB.out⟩
theorem nodex_1(n1 s m p)(hs9:s.size<=9223372036854775807)(hm9:m<=140737488355328)(hp9:p<=140737488355328)(a1 c1 a2 c2 w b)(hb:b=((decide (n1=0)||decide (n1=1))&&(s.toList==[])&&decide (m=0)&&decide (p=0))):
  Calls Tryz.prog 56 #[.agg #[.int .i64 1,.int .i64 n1,.string s,.slice a1 m c1,.slice a2 p c2]] w (Fw b w):=by
 by_cases h:n1=0
 ·subst h;by_cases hs0:s.toList=[]
  ·obtain rfl:s=⟨#[]⟩:=Dz (by simp[hs0]);clear hs0;by_cases hm0:m=0
   ·subst hm0;by_cases hp0:p=0
    ·subst hp0;obtain rfl:b=true:=(by rw[hb];first|(simp_all;done)|(simp_all;intros;omega));clear hb;have HB:=Lq7 ((bRf _ w).alloc (nlr _) (.cells #[.int .i64 1,.int .i64 0,.string ⟨#[]⟩,.slice a1 0 c1,.slice a2 0 c2] 25));go_enter Tryz.func56,Tryz.ntmps56;go_wp2_with fail;go_ret;exact⟨rfl,HB.out⟩
    ·have aA:¬(p:Int)=0:=(by omega);have aH:((p:Int)==0)=false:=(by simpa using aA);obtain rfl:b=false:=(by rw[hb];first|(simp_all;done)|(simp_all;intros;omega));clear hb;have HB:=Lq7 ((bRf _ w).alloc (nlr _) (.cells #[.int .i64 1,.int .i64 0,.string ⟨#[]⟩,.slice a1 0 c1,.slice a2 p c2] 25));go_enter Tryz.func56,Tryz.ntmps56;go_wp2_with fail;go_ret;exact⟨rfl,HB.out⟩
   ·have aB:¬(m:Int)=0:=(by omega);have aF:((m:Int)==0)=false:=(by simpa using aB);obtain rfl:b=false:=(by rw[hb];first|(simp_all;done)|(simp_all;intros;omega));clear hb;have HB:=Lq7 ((bRf _ w).alloc (nlr _) (.cells #[.int .i64 1,.int .i64 0,.string ⟨#[]⟩,.slice a1 m c1,.slice a2 p c2] 25));go_enter Tryz.func56,Tryz.ntmps56;go_wp2_with fail;go_ret;exact⟨rfl,HB.out⟩
  ·have hs:(s.toList==[])=false:=(by simpa using hs0);obtain rfl:b=false:=(by rw[hb];first|(simp_all;done)|(simp_all;intros;omega));clear hb;have HB:=Lq7 ((bRf _ w).alloc (nlr _) (.cells #[.int .i64 1,.int .i64 0,.string s,.slice a1 m c1,.slice a2 p c2] 25));go_enter Tryz.func56,Tryz.ntmps56;go_wp2_with fail;go_ret;exact⟨rfl,HB.out⟩
 ·have hn:(n1==0)=false:=(by simpa using h);by_cases h1:n1=1
  ·subst h1;by_cases hs0:s.toList=[]
   ·obtain rfl:s=⟨#[]⟩:=Dz (by simp[hs0]);clear hs0;by_cases hm0:m=0
    ·subst hm0;by_cases hp0:p=0
     ·subst hp0;obtain rfl:b=true:=(by rw[hb];first|(simp_all;done)|(simp_all;intros;omega));clear hb;have HB:=Lq7 ((bRf _ w).alloc (nlr _) (.cells #[.int .i64 1,.int .i64 1,.string ⟨#[]⟩,.slice a1 0 c1,.slice a2 0 c2] 25));go_enter Tryz.func56,Tryz.ntmps56;go_wp2_with fail;go_ret;exact⟨rfl,HB.out⟩
     ·have aA:¬(p:Int)=0:=(by omega);have aH:((p:Int)==0)=false:=(by simpa using aA);obtain rfl:b=false:=(by rw[hb];first|(simp_all;done)|(simp_all;intros;omega));clear hb;have HB:=Lq7 ((bRf _ w).alloc (nlr _) (.cells #[.int .i64 1,.int .i64 1,.string ⟨#[]⟩,.slice a1 0 c1,.slice a2 p c2] 25));go_enter Tryz.func56,Tryz.ntmps56;go_wp2_with fail;go_ret;exact⟨rfl,HB.out⟩
    ·have aB:¬(m:Int)=0:=(by omega);have aF:((m:Int)==0)=false:=(by simpa using aB);obtain rfl:b=false:=(by rw[hb];first|(simp_all;done)|(simp_all;intros;omega));clear hb;have HB:=Lq7 ((bRf _ w).alloc (nlr _) (.cells #[.int .i64 1,.int .i64 1,.string ⟨#[]⟩,.slice a1 m c1,.slice a2 p c2] 25));go_enter Tryz.func56,Tryz.ntmps56;go_wp2_with fail;go_ret;exact⟨rfl,HB.out⟩
   ·have hs:(s.toList==[])=false:=(by simpa using hs0);obtain rfl:b=false:=(by rw[hb];first|(simp_all;done)|(simp_all;intros;omega));clear hb;have HB:=Lq7 ((bRf _ w).alloc (nlr _) (.cells #[.int .i64 1,.int .i64 1,.string s,.slice a1 m c1,.slice a2 p c2] 25));go_enter Tryz.func56,Tryz.ntmps56;go_wp2_with fail;go_ret;exact⟨rfl,HB.out⟩
  ·have hn1:(n1==1)=false:=(by simpa using h1);obtain rfl:b=false:=(by rw[hb];first|(simp_all;done)|(simp_all;intros;omega));clear hb;have HB:=Lq7 ((bRf _ w).alloc (nlr _) (.cells #[.int .i64 1,.int .i64 n1,.string s,.slice a1 m c1,.slice a2 p c2] 25));go_enter Tryz.func56,Tryz.ntmps56;go_wp2_with fail;go_ret;exact⟨rfl,HB.out⟩
theorem nodex_2(n1 s m p)(hs9:s.size<=9223372036854775807)(hm9:m<=140737488355328)(hp9:p<=140737488355328)(a1 c1 a2 c2 w b)(hb:b=((s.toList==[])&&decide (m=0)&&decide (p=0))):
  Calls Tryz.prog 56 #[.agg #[.int .i64 2,.int .i64 n1,.string s,.slice a1 m c1,.slice a2 p c2]] w (Fw b w):=by
 by_cases hs0:s.toList=[]
 ·obtain rfl:s=⟨#[]⟩:=Dz (by simp[hs0]);clear hs0;by_cases hm0:m=0
  ·subst hm0;by_cases hp0:p=0
   ·subst hp0;obtain rfl:b=true:=(by rw[hb];first|(simp_all;done)|(simp_all;intros;omega));clear hb;have HB:=Lq7 ((bRf _ w).alloc (nlr _) (.cells #[.int .i64 2,.int .i64 n1,.string ⟨#[]⟩,.slice a1 0 c1,.slice a2 0 c2] 25));go_enter Tryz.func56,Tryz.ntmps56;go_wp2_with fail;go_ret;exact⟨rfl,HB.out⟩
   ·have aA:¬(p:Int)=0:=(by omega);have aH:((p:Int)==0)=false:=(by simpa using aA);obtain rfl:b=false:=(by rw[hb];first|(simp_all;done)|(simp_all;intros;omega));clear hb;have HB:=Lq7 ((bRf _ w).alloc (nlr _) (.cells #[.int .i64 2,.int .i64 n1,.string ⟨#[]⟩,.slice a1 0 c1,.slice a2 p c2] 25));go_enter Tryz.func56,Tryz.ntmps56;go_wp2_with fail;go_ret;exact⟨rfl,HB.out⟩
  ·have aB:¬(m:Int)=0:=(by omega);have aF:((m:Int)==0)=false:=(by simpa using aB);obtain rfl:b=false:=(by rw[hb];first|(simp_all;done)|(simp_all;intros;omega));clear hb;have HB:=Lq7 ((bRf _ w).alloc (nlr _) (.cells #[.int .i64 2,.int .i64 n1,.string ⟨#[]⟩,.slice a1 m c1,.slice a2 p c2] 25));go_enter Tryz.func56,Tryz.ntmps56;go_wp2_with fail;go_ret;exact⟨rfl,HB.out⟩
 ·have hs:(s.toList==[])=false:=(by simpa using hs0);obtain rfl:b=false:=(by rw[hb];first|(simp_all;done)|(simp_all;intros;omega));clear hb;have HB:=Lq7 ((bRf _ w).alloc (nlr _) (.cells #[.int .i64 2,.int .i64 n1,.string s,.slice a1 m c1,.slice a2 p c2] 25));go_enter Tryz.func56,Tryz.ntmps56;go_wp2_with fail;go_ret;exact⟨rfl,HB.out⟩
theorem nodex_3(n1 s m p)(hs9:s.size<=9223372036854775807)(hm9:m<=140737488355328)(hp9:p<=140737488355328)(a1 c1 a2 c2 w b)(hb:b=(decide (n1=0)&&decide (s.size<=65536)&&decide (m=0)&&decide (p=0))):
  Calls Tryz.prog 56 #[.agg #[.int .i64 3,.int .i64 n1,.string s,.slice a1 m c1,.slice a2 p c2]] w (Fw b w):=by
 by_cases hn0:n1=0
 ·subst hn0;by_cases hsz:s.size<=65536
  ·have hsz':(s.size:Int)<=65536:=(by omega);by_cases hm0:m=0
   ·subst hm0;by_cases hp0:p=0
    ·subst hp0;obtain rfl:b=true:=(by rw[hb];first|(simp_all;done)|(simp_all;intros;omega));clear hb;have HB:=Lq7 ((bRf _ w).alloc (nlr _) (.cells #[.int .i64 3,.int .i64 0,.string s,.slice a1 0 c1,.slice a2 0 c2] 25));go_enter Tryz.func56,Tryz.ntmps56;go_wp2_with fail;go_ret;exact⟨rfl,HB.out⟩
    ·have aA:¬(p:Int)=0:=(by omega);have aH:((p:Int)==0)=false:=(by simpa using aA);obtain rfl:b=false:=(by rw[hb];first|(simp_all;done)|(simp_all;intros;omega));clear hb;have HB:=Lq7 ((bRf _ w).alloc (nlr _) (.cells #[.int .i64 3,.int .i64 0,.string s,.slice a1 0 c1,.slice a2 p c2] 25));go_enter Tryz.func56,Tryz.ntmps56;go_wp2_with fail;go_ret;exact⟨rfl,HB.out⟩
   ·have aB:¬(m:Int)=0:=(by omega);have aF:((m:Int)==0)=false:=(by simpa using aB);obtain rfl:b=false:=(by rw[hb];first|(simp_all;done)|(simp_all;intros;omega));clear hb;have HB:=Lq7 ((bRf _ w).alloc (nlr _) (.cells #[.int .i64 3,.int .i64 0,.string s,.slice a1 m c1,.slice a2 p c2] 25));go_enter Tryz.func56,Tryz.ntmps56;go_wp2_with fail;go_ret;exact⟨rfl,HB.out⟩
  ·have hsz':¬(s.size:Int)<=65536:=(by omega);obtain rfl:b=false:=(by rw[hb];first|(simp_all;done)|(simp_all;intros;omega));clear hb;have HB:=Lq7 ((bRf _ w).alloc (nlr _) (.cells #[.int .i64 3,.int .i64 0,.string s,.slice a1 m c1,.slice a2 p c2] 25));go_enter Tryz.func56,Tryz.ntmps56;go_wp2_with fail;go_ret;exact⟨rfl,HB.out⟩
 ·have hn:(n1==0)=false:=(by simpa using hn0);obtain rfl:b=false:=(by rw[hb];first|(simp_all;done)|(simp_all;intros;omega));clear hb;have HB:=Lq7 ((bRf _ w).alloc (nlr _) (.cells #[.int .i64 3,.int .i64 n1,.string s,.slice a1 m c1,.slice a2 p c2] 25));go_enter Tryz.func56,Tryz.ntmps56;go_wp2_with fail;go_ret;exact⟨rfl,HB.out⟩
theorem nodex_4(n1 s m p)(hs9:s.size<=9223372036854775807)(hm9:m<=140737488355328)(hp9:p<=140737488355328)(a1 c1 a2 c2 w b)(hb:b=(decide (n1=0)&&(s.toList==[])&&decide (m<=1000)&&decide (p=0))):
  Calls Tryz.prog 56 #[.agg #[.int .i64 4,.int .i64 n1,.string s,.slice a1 m c1,.slice a2 p c2]] w (Fw b w):=by
 by_cases hn0:n1=0
 ·subst hn0;by_cases hs0:s.toList=[]
  ·obtain rfl:s=⟨#[]⟩:=Dz (by simp[hs0]);clear hs0;by_cases hml:m<=1000
   ·have hml':(m:Int)<=1000:=(by omega);by_cases hp0:p=0
    ·subst hp0;obtain rfl:b=true:=(by rw[hb];first|(simp_all;done)|(simp_all;intros;omega));clear hb;have HB:=Lq7 ((bRf _ w).alloc (nlr _) (.cells #[.int .i64 4,.int .i64 0,.string ⟨#[]⟩,.slice a1 m c1,.slice a2 0 c2] 25));go_enter Tryz.func56,Tryz.ntmps56;go_wp2_with fail;go_ret;exact⟨rfl,HB.out⟩
    ·have aA:¬(p:Int)=0:=(by omega);have aH:((p:Int)==0)=false:=(by simpa using aA);obtain rfl:b=false:=(by rw[hb];first|(simp_all;done)|(simp_all;intros;omega));clear hb;have HB:=Lq7 ((bRf _ w).alloc (nlr _) (.cells #[.int .i64 4,.int .i64 0,.string ⟨#[]⟩,.slice a1 m c1,.slice a2 p c2] 25));go_enter Tryz.func56,Tryz.ntmps56;go_wp2_with fail;go_ret;exact⟨rfl,HB.out⟩
   ·have hml':¬(m:Int)<=1000:=(by omega);obtain rfl:b=false:=(by rw[hb];first|(simp_all;done)|(simp_all;intros;omega));clear hb;have HB:=Lq7 ((bRf _ w).alloc (nlr _) (.cells #[.int .i64 4,.int .i64 0,.string ⟨#[]⟩,.slice a1 m c1,.slice a2 p c2] 25));go_enter Tryz.func56,Tryz.ntmps56;go_wp2_with fail;go_ret;exact⟨rfl,HB.out⟩
  ·have hs:(s.toList==[])=false:=(by simpa using hs0);obtain rfl:b=false:=(by rw[hb];first|(simp_all;done)|(simp_all;intros;omega));clear hb;have HB:=Lq7 ((bRf _ w).alloc (nlr _) (.cells #[.int .i64 4,.int .i64 0,.string s,.slice a1 m c1,.slice a2 p c2] 25));go_enter Tryz.func56,Tryz.ntmps56;go_wp2_with fail;go_ret;exact⟨rfl,HB.out⟩
 ·have hn:(n1==0)=false:=(by simpa using hn0);obtain rfl:b=false:=(by rw[hb];first|(simp_all;done)|(simp_all;intros;omega));clear hb;have HB:=Lq7 ((bRf _ w).alloc (nlr _) (.cells #[.int .i64 4,.int .i64 n1,.string s,.slice a1 m c1,.slice a2 p c2] 25));go_enter Tryz.func56,Tryz.ntmps56;go_wp2_with fail;go_ret;exact⟨rfl,HB.out⟩
theorem nodex_5(n1 s m p)(hs9:s.size<=9223372036854775807)(hm9:m<=140737488355328)(_hp9:p<=140737488355328)(a1 c1 a2 c2 w kb b)(hb:b=(decide (n1=0)&&(s.toList==[])&&decide (m<=1000)&&kb))(hk:∀W,Below w.heap.size w W->Calls Tryz.prog 106 #[.agg #[.int .i64 5,.int .i64 n1,.string s,.slice a1 m c1,.slice a2 p c2]] W (Fw kb W)):
  Calls Tryz.prog 56 #[.agg #[.int .i64 5,.int .i64 n1,.string s,.slice a1 m c1,.slice a2 p c2]] w (Fw b w):=by
 have HK:=Lq7 hk;clear hk;by_cases hn0:n1=0
 ·subst hn0;by_cases hs0:s.toList=[]
  ·obtain rfl:s=⟨#[]⟩:=Dz (by simp[hs0]);clear hs0;by_cases hml:m<=1000
   ·have hml':(m:Int)<=1000:=(by omega);obtain rfl:b=kb:=(by rw[hb];simp_all);clear hb;have aC:Below w.heap.size w (w.alloc (.cells #[.int .i64 5,.int .i64 0,.string ⟨#[]⟩,.slice a1 m c1,.slice a2 p c2] 25)):=(bRf _ w).alloc (nlr _) _;have HB:=Lq7 aC;have HK1:=Lq7 (HK.out _ aC);clear aC HK;go_enter Tryz.func56,Tryz.ntmps56;go_wp2_with fail;refine HK1.out.mono ?_;rintro e w1 ⟨rfl,aG⟩;have Hb1:=Lq7 (HB.out.trans (aG.mono HB.out.size));clear aG;go_wp2_with fail;go_ret;exact⟨rfl,Hb1.out⟩
   ·have hml':¬(m:Int)<=1000:=(by omega);clear HK;obtain rfl:b=false:=(by rw[hb];first|(simp_all;done)|(simp_all;intros;omega));clear hb;have HB:=Lq7 ((bRf _ w).alloc (nlr _) (.cells #[.int .i64 5,.int .i64 0,.string ⟨#[]⟩,.slice a1 m c1,.slice a2 p c2] 25));go_enter Tryz.func56,Tryz.ntmps56;go_wp2_with fail;go_ret;exact⟨rfl,HB.out⟩
  ·have hs:(s.toList==[])=false:=(by simpa using hs0);clear HK;obtain rfl:b=false:=(by rw[hb];first|(simp_all;done)|(simp_all;intros;omega));clear hb;have HB:=Lq7 ((bRf _ w).alloc (nlr _) (.cells #[.int .i64 5,.int .i64 0,.string s,.slice a1 m c1,.slice a2 p c2] 25));go_enter Tryz.func56,Tryz.ntmps56;go_wp2_with fail;go_ret;exact⟨rfl,HB.out⟩
 ·have hn:(n1==0)=false:=(by simpa using hn0);clear HK;obtain rfl:b=false:=(by rw[hb];first|(simp_all;done)|(simp_all;intros;omega));clear hb;have HB:=Lq7 ((bRf _ w).alloc (nlr _) (.cells #[.int .i64 5,.int .i64 n1,.string s,.slice a1 m c1,.slice a2 p c2] 25));go_enter Tryz.func56,Tryz.ntmps56;go_wp2_with fail;go_ret;exact⟨rfl,HB.out⟩
theorem Qo(k n1 s m p)(h0:¬k=0)(h1:¬k=1)(h2:¬k=2)(h3:¬k=3)(h4:¬k=4)(h5:¬k=5)(a1 c1 a2 c2 w):
  Calls Tryz.prog 56 #[.agg #[.int .i64 k,.int .i64 n1,.string s,.slice a1 m c1,.slice a2 p c2]] w (Fw false w):=by
 have HB:=Lq7 ((bRf _ w).alloc (nlr _) (.cells #[.int .i64 k,.int .i64 n1,.string s,.slice a1 m c1,.slice a2 p c2] 25));have e0:(k==0)=false:=(by simpa using h0);have e1:(k==1)=false:=(by simpa using h1);have e2:(k==2)=false:=(by simpa using h2);have e3:(k==3)=false:=(by simpa using h3);have e4:(k==4)=false:=(by simpa using h4);have e5:(k==5)=false:=(by simpa using h5);go_enter Tryz.func56,Tryz.ntmps56;go_wp2_with fail;go_ret;exact⟨rfl,HB.out⟩
theorem Fb(s:ByteArray):s.toList.isEmpty=(s.toList==[]):=by cases s.toList<;>rfl
theorem len0{α:Type}(l:List α):l.isEmpty=decide (l.length=0):=by cases l<;>simp
theorem Sj(k n1 s l ks)(hsm:A4 (.mk k n1 s l ks))(F a1 c1 a2 c2 w)(hk:Ag F w a2 (Bc ks)):
  Calls Tryz.prog 56 #[.agg #[.int .i64 k,.int .i64 n1,.string s,.slice a1 l.length c1,.slice a2 ks.length c2]] w (Fw (Bf k n1 s l ks) w):=by
 rw[A4] at hsm;obtain⟨⟨hs9,hin⟩,hm9,hp9,hz,-⟩:=hsm;by_cases h0:k=0
 ·subst h0;exact nodex_0 n1 s l.length ks.length hs9 hm9 hp9 a1 c1 a2 c2 w _ (by unfold Bf;rw[if_pos rfl,Fb,len0,len0,show(n1==0)=decide (n1=0) from rfl])
 by_cases h1:k=1
 ·subst h1;exact nodex_1 n1 s l.length ks.length hs9 hm9 hp9 a1 c1 a2 c2 w _ (by unfold Bf;rw[if_neg (by decide),if_pos rfl,Fb,len0,len0,show(n1==0)=decide (n1=0) from rfl,show(n1==1)=decide (n1=1) from rfl])
 by_cases h2:k=2
 ·subst h2;exact nodex_2 n1 s l.length ks.length hs9 hm9 hp9 a1 c1 a2 c2 w _ (by unfold Bf;rw[if_neg (by decide),if_neg (by decide),if_pos rfl,Fb,len0,len0,hin,Bool.true_and])
 by_cases h3:k=3
 ·subst h3;exact nodex_3 n1 s l.length ks.length hs9 hm9 hp9 a1 c1 a2 c2 w _ (by unfold Bf;rw[if_neg (by decide),if_neg (by decide),if_neg (by decide),if_pos rfl,len0,len0,show(n1==0)=decide (n1=0) from rfl])
 by_cases h4:k=4
 ·subst h4;exact nodex_4 n1 s l.length ks.length hs9 hm9 hp9 a1 c1 a2 c2 w _ (by unfold Bf;rw[if_neg (by decide),if_neg (by decide),if_neg (by decide),if_neg (by decide),if_pos rfl,Fb,len0,show(n1==0)=decide (n1=0) from rfl])
 by_cases h5:k=5
 ·subst h5;refine nodex_5 n1 s l.length ks.length hs9 hm9 hp9 a1 c1 a2 c2 w (decide (l.length=ks.length)&&risesGo none ks) _ ?_ (fun W hb=>R3 5 n1 s l.length ks hm9 hp9 hz a1 c1 a2 c2 W (hk.below hb).strs);unfold Bf risesL;rw[if_neg (by decide),if_neg (by decide),if_neg (by decide),if_neg (by decide),if_neg (by decide),if_pos rfl,Fb,show(n1==0)=decide (n1=0) from rfl,show(l.length==ks.length)=decide (l.length=ks.length) from rfl];by_cases hlk:l.length=ks.length
  ·rw[hlk];cases decide (n1=0)<;>cases (s.toList==[])<;>cases decide (ks.length<=1000)<;>cases risesGo none ks<;>simp
  ·rw[decide_eq_false hlk];simp
 ·have hf:Bf k n1 s l ks=false:=by
   unfold Bf;rw[if_neg h0,if_neg h1,if_neg h2,if_neg h3,if_neg h4,if_neg h5]
  rw[hf];exact Qo k n1 s l.length ks.length h0 h1 h2 h3 h4 h5 a1 c1 a2 c2 w
def Ns(v:Vl):Prop:=∀(F:Nat->Prop) (a1:Option Addr) (c1:Nat) (a2:Option Addr) (c2:Nat) (w:World),Ag F w a1 (A5 v.items)->Ag F w a2 (Bc v.keys) ->
 Calls Tryz.prog 35 #[.agg #[.int .i64 v.kind,.int .i64 v.num,.string v.str,.slice a1 v.items.length c1,.slice a2 v.keys.length c2]] w (Fw (nodesR v) w)
theorem O3(k n1 s l ks)(hsm:A4 (.mk k n1 s l ks))(hit:∀x∈l,Ns x)(F a1 c1 a2 c2 w)(hr1:Ag F w a1 (A5 l))(hr2:Ag F w a2 (Bc ks)):
  Calls Tryz.prog 35 #[.agg #[.int .i64 k,.int .i64 n1,.string s,.slice a1 l.length c1,.slice a2 ks.length c2]] w (Fw (nodesRs l&&Bf k n1 s l ks) w):=by
 have aC:Below w.heap.size w (w.alloc (.cells #[.int .i64 k,.int .i64 n1,.string s,.slice a1 l.length c1,.slice a2 ks.length c2] 25)):=(bRf _ w).alloc (nlr _) _;have H0:=Lq7 (aIn (heap_alloc_new w (.cells #[.int .i64 k,.int .i64 n1,.string s,.slice a1 l.length c1,.slice a2 ks.length c2] 25)) aC);have Hr:=Lq7 hr1;have Hit:=Lq7 hit;have HN:=Lq7 (fun W (h:Below w.heap.size w W)=>Sj k n1 s l ks hsm F a1 c1 a2 c2 W (hr2.below h));have hl:l.length<=140737488355328:=(by rw[A4] at hsm;exact hsm.2.1);generalize Bf k n1 s l ks=nb at HN |-;generalize hR:(nodesRs l&&nb)=R;have HR:=Lq7 hR;clear hr1 hr2 hit aC hsm hR;go_enter Tryz.func35,Tryz.ntmps35;go_wp2_with fail;generalize World.alloc _ _=W0 at H0 |-
 go_loopw [7] (fun i wr=>∃j:Nat,i = .int .i64 j/\j<=l.length/\Hid ((nodesRs (l.drop j)&&nb)=R)/\Hid (wr.heap[w.heap.size]? = some (.cells #[.int .i64 k,.int .i64 n1,.string s,.slice a1 l.length c1,.slice a2 ks.length c2] 25 (0,0))/\Below w.heap.size w wr)) (fun i _=>l.length-(intOf i).toNat)
 case atStart=>exact⟨0,rfl,nlz _,Lq7 (by rw[List.drop_zero];exact HR.out),H0⟩
 case round=>
  obtain⟨j,rfl,hj,hn,aE⟩:=hrel;obtain⟨q0,q1,q2,q3,q4,q5,-⟩:=Aa aE.out.1;by_cases hlt:j<l.length
  ·have aM:l[j]? = some l[j]:=lgE hlt;have hg:=hn.out;rw[List.drop_eq_getElem_cons hlt,nodesRs] at hg;have Hg:=Lq7 hg;clear hg hn;generalize l[j]=x at aM Hg;have HC:=Lq7 (Hit.out x (lgM aM));obtain⟨xk,xn,xs,xl,xks⟩:=x;obtain⟨b,off,b1,e1,b2,e2,rfl,-,hbl,r0,r1,r2,r3,r4,aR,aS⟩:=(Hr.out.below aE.out.2).val aM;have HK:=Lq7 (HC.out F b1 e1 b2 e2 wr aR aS);clear aM HC aR aS;generalize nodesR (.mk xk xn xs xl xks)=xb at HK Hg;go_wp2_with fail;refine HK.out.mono ?_;rintro e w2 ⟨rfl,aD⟩;have aI:=Lq7 (aIn (stays aE.out.1 aD) (aE.out.2.trans (aD.mono aE.out.2.size)));clear aD aE HK r0 r1 r2 r3 r4 q0 q1 q2 q3 q4 q5;cases xb with
   | false=>
    have aJ:Hid (R=false):=Lq7 (by rw[<-Hg.out];rfl);clear Hg;go_wp2_with fail;go_ret;exact⟨congrArg (fun z=>Ending.returned (Value.bool z)) aJ.out.symm,aI.out.2⟩
   | true=>
    have Hg2:Hid ((nodesRs (l.drop (j+1))&&nb)=R):=Lq7 (by have:=Hg.out;rwa [Bool.true_and] at this);clear Hg;go_wp2_with fail;go_roundw
    case rel=>exact⟨j+1,by go_num,by omega,Hg2,aI⟩
    case measure=>simp only[intOf];omega
  ·have aN:=Lq7 (HN.out wr aE.out.2);have aQ:Hid (nb=R):=Lq7 (by have:=hn.out;rwa [List.drop_of_length_le (by omega),nodesRs,Bool.true_and] at this);clear HN hn;go_wp2_with fail;refine aN.out.mono ?_;rintro e w2 ⟨rfl,aD⟩;have Hb2:=Lq7 (aE.out.2.trans (aD.mono aE.out.2.size));clear aD;go_wp2_with fail;go_ret;exact⟨congrArg (fun z=>Ending.returned (Value.bool z)) aQ.out,Hb2.out⟩
theorem Qp(v):A4 v->Ns v:=
 Vl.rec (motive_1:=fun v=>A4 v->Ns v) (motive_2:=fun l=>Bk l->∀x∈l,Ns x)
  (fun k n s l ks ih h F a1 c1 a2 c2 w hr1 hr2=>by
   have h':=h;rw[A4] at h';rw[nodesR];exact O3 k n s l ks h (ih h'.2.2.2.2) F a1 c1 a2 c2 w hr1 hr2)
  (fun _ x hx=>by cases hx)
  (fun v t hv ht h x hx=>by
   rw[Bk] at h;rcases List.mem_cons.1 hx with rfl|hx
   ·exact hv h.1
   ·exact ht h.2 x hx) v
theorem Nt(k n1 s l ks)(hs:A4 (.mk k n1 s l ks))(F a1 c1 a2 c2 w)(hr1:Ag F w a1 (A5 l))(hr2:Ag F w a2 (Bc ks)):
  Calls Tryz.prog 17 #[.agg #[.int .i64 k,.int .i64 n1,.string s,.slice a1 l.length c1,.slice a2 ks.length c2]] w (Fw (A7 (.mk k n1 s l ks)) w):=by
 rw[<-Rj];have aC:Below w.heap.size w (w.alloc (.cells #[.int .i64 k,.int .i64 n1,.string s,.slice a1 l.length c1,.slice a2 ks.length c2] 25)):=(bRf _ w).alloc (nlr _) _;have H0:=Lq7 (aIn (heap_alloc_new w (.cells #[.int .i64 k,.int .i64 n1,.string s,.slice a1 l.length c1,.slice a2 ks.length c2] 25)) aC);have HM:=Lq7 (Sc _ hs F a1 c1 a2 c2 20000 _ (hr1.below aC) (hr2.below aC) (by omega) (by omega));have HD:=Lq7 (fun W (h:Below w.heap.size w W)=>Sd _ hs F a1 c1 a2 c2 60 W (hr1.below h) (hr2.below h) (by omega) (by omega));have HN:=Lq7 (fun W (h:Below w.heap.size w W)=>Qp _ hs F a1 c1 a2 c2 W (hr1.below h) (hr2.below h));have hR:checkR (.mk k n1 s l ks)=(decide (manyR (.mk k n1 s l ks) 20000<=20000)&&decide (deepR (.mk k n1 s l ks) 60<=60)&&nodesR (.mk k n1 s l ks)):=rfl;have hm:=Gk (.mk k n1 s l ks) 20000 (by omega);have hd:=Gl (.mk k n1 s l ks) 60 (by omega);have aB:=hm.1;have aF:=hm.2.1;have hd1:=hd.1;have hd2:=hd.2.1;clear aC hr1 hr2 hs hm hd;generalize checkR (.mk k n1 s l ks)=R at hR |-;generalize manyR (.mk k n1 s l ks) 20000=cx at HM hR aB aF;generalize deepR (.mk k n1 s l ks) 60=dx at HD hR hd1 hd2;generalize nodesR (.mk k n1 s l ks)=nx at HN hR;have HR:=Lq7 hR;clear hR;go_enter Tryz.func17,Tryz.ntmps17;go_wp2_with fail;refine HM.out.mono ?_;rintro e w1 ⟨rfl,aG⟩;have H1:=Lq7 (aIn (stays H0.out.1 aG) (H0.out.2.trans (aG.mono H0.out.2.size)));have aU:=Lq7 (HD.out w1 H1.out.2);clear aG H0 HM HD;obtain⟨q0,q1,q2,q3,q4,q5,-⟩:=Aa H1.out.1;by_cases hcx:cx<=20000
 case neg=>
  have aJ:Hid (R=false):=Lq7 (by rw[HR.out,decide_eq_false hcx];rfl);clear HR;go_wp2_with fail;go_ret;exact⟨congrArg (fun z=>Ending.returned (Value.bool z)) aJ.out.symm,H1.out.2⟩
 go_wp2_with fail;refine aU.out.mono ?_;rintro e w2 ⟨rfl,aD⟩;have H2:=Lq7 (aIn (stays H1.out.1 aD) (H1.out.2.trans (aD.mono H1.out.2.size)));have aN:=Lq7 (HN.out w2 H2.out.2);clear aD H1 aU HN q0 q1 q2 q3 q4 q5;obtain⟨q0,q1,q2,q3,q4,q5,-⟩:=Aa H2.out.1;by_cases hdx:dx<=60
 case neg=>
  have aJ:Hid (R=false):=Lq7 (by rw[HR.out,decide_eq_false hdx,Bool.and_false];rfl);clear HR;go_wp2_with fail;go_ret;exact⟨congrArg (fun z=>Ending.returned (Value.bool z)) aJ.out.symm,H2.out.2⟩
 have aQ:Hid (R=nx):=Lq7 (by rw[HR.out,decide_eq_true hcx,decide_eq_true hdx];rfl);clear HR;go_wp2_with fail;refine aN.out.mono ?_;rintro e w3 ⟨rfl,aV⟩;have Hb3:=Lq7 (H2.out.2.trans (aV.mono H2.out.2.size));clear aV;go_wp2_with fail;go_ret;exact⟨congrArg (fun z=>Ending.returned (Value.bool z)) aQ.out.symm,Hb3.out⟩
def PT11(r:Option (List ByteArray))(w:World)(e:Ending)(w':World):Prop:=Below w.heap.size w w'/\match r with
 | some l=>∃x,e = .returned (.tuple #[x,.bool true])/\OwnS w' w.heap.size x l
 | none=>∃x,e = .returned (.tuple #[.slice x 0 0,.bool false])
theorem Tg{l:List Vl}(j:Nat)(h:∀x∈l.take j,x.kind=3){x:Vl}(hx:l[j]? = some x)(hk:x.kind=3):∀y∈l.take (j+1),y.kind=3:=by
 intro y hy;rw[ltA,hx,List.mem_append] at hy;rcases hy with hy|hy
 ·exact h y hy
 ·simp at hy;subst hy;exact hk
theorem N5(n s l ks)(hck:A7 (.mk 4 n s l ks)=true)(F a1 c1 a2 c2 w)(hr1:Ag F w a1 (A5 l))(hr2:Ag F w a2 (Bc ks)):
  Calls Tryz.prog 18 #[.agg #[.int .i64 4,.int .i64 n,.string s,.slice a1 l.length c1,.slice a2 ks.length c2]] w (PT11 (B2 (.mk 4 n s l ks)) w):=by
 have hl:=(check_len hck).2.1;obtain⟨n1,n2,n3,n4⟩:=G0 w (.cells #[.int .i64 4,.int .i64 n,.string s,.slice a1 l.length c1,.slice a2 ks.length c2] 25) (.cells #[] 9);have H0:=Lq7 (aIn n1 (aIn n2 n3));have HC:=Lq7 (O2 4 n s l ks hck F a1 c1 a2 c2 _ (hr1.below n3) (hr2.below n3));have Hr:=Lq7 hr1;have aI:Hid ((∀x∈l,x.kind=3)->B2 (.mk 4 n s l ks)=some (l.map Vl.str)):=Lq7 (fun h=>by
  unfold B2;rw[if_pos ⟨rfl,hck,by rw[List.all_eq_true];intro x hx;exact beq_iff_eq.2 (h x hx)⟩];rfl)
 have aY:Hid ((∃x∈l,¬x.kind=3)->B2 (.mk 4 n s l ks)=none):=Lq7 (fun⟨x,hx,hk⟩=>by
  unfold B2;rw[if_neg];rintro⟨-,-,h⟩;rw[List.all_eq_true] at h;exact hk (beq_iff_eq.1 (h x hx)))
 clear hr1 hr2 hck n1 n2 n3 n4;generalize B2 (.mk 4 n s l ks)=R at aI aY |-;obtain⟨i0,hi,hz0,hz1,hz2⟩:=info_parts infoStr;go_enter Tryz.func18,Tryz.ntmps18;go_wp2_with fail;refine HC.out.mono ?_;rintro e w1 ⟨rfl,aN⟩;have H1:=Lq7 (aIn (stays H0.out.1 aN) (aIn (stays H0.out.2.1 aN) (H0.out.2.2.trans (aN.mono H0.out.2.2.size))));have hs1:=here H1.out.2.1;clear aN H0 HC;obtain⟨q0,q1,q2,q3,q4,q5,-⟩:=Aa H1.out.1;go_wp2_with fail;clear q0 q1 q2 q3 q4 q5
 go_loopw [4,19] (fun v i wr=>∃(j:Nat) (aL:Option Addr) (cL:Nat),i = .int .i64 j/\v = .slice aL j cL/\j<=l.length/\Hid (∀x∈l.take j,x.kind=3)/\Hid (OwnS wr (w.heap.size+1) (.slice aL j cL) ((l.take j).map Vl.str))/\Hid (wr.heap[w.heap.size]? = some (.cells #[.int .i64 4,.int .i64 n,.string s,.slice a1 l.length c1,.slice a2 ks.length c2] 25 (0,0))/\Below w.heap.size w wr)) (fun _ i _=>l.length-(intOf i).toNat)
 case atStart=>
  refine⟨0,some ⟨w.heap.size+1,0,none⟩,0,rfl,rfl,nlz _,Lq7 (fun x hx=>by simp at hx),Lq7 ?_,Lq7 ⟨H1.out.1,H1.out.2.2⟩⟩;refine⟨by simp,.inr ⟨w.heap.size+1,0,#[],rfl,nlr _,H1.out.2.1,nlr _,nlz _,rfl,by simp⟩⟩
 case round=>
  obtain⟨j,aL,cL,rfl,rfl,hj,aB,hown,aA⟩:=hrel;obtain⟨q0,q1,q2,q3,q4,q5,-⟩:=Aa aA.out.1;have hsw:=here aA.out.1;by_cases hlt:j<l.length
  ·have aD:l[j]? = some l[j]:=lgE hlt;generalize l[j]=x at aD;have aR:l.take (j+1)=l.take j++[x]:=(by rw[ltA,aD];rfl);by_cases hk3:x.kind=3
   ·have aJ:=Lq7 (Tg j aB.out aD hk3);obtain⟨xk,xn,xs,xl,xks⟩:=x;obtain rfl:xk=3:=hk3;obtain⟨b,off,b1,e1,b2,e2,rfl,-,hbl,r0,r1,r2,r3,r4,-,-⟩:=(Hr.out.below aA.out.2).val aD;have aQ:Below wr.heap.size wr (wr.alloc (.cells #[.string xs] 9)):=(bRf _ wr).alloc (nlr _) _;have aM:=Lq7 (lit_one wr (.string xs) 9);have aE:Hid ((wr.alloc (.cells #[.string xs] 9)).ownsRow (w.heap.size+1) 9 1 (.slice aL j cL) j (((l.take j).map Vl.str).map Value.string)):=Lq7 (by
     have:=hown.out.below aQ;unfold OwnS at this;rw[lnM,lnT,Nat.min_eq_left hj] at this;exact this)
    have aS:Hid (∀g,(Value.slice aL j cL).ownBlock=some g->w.heap.size+1<=g):=Lq7 (fun g hg=>(hown.out.block hg).1);have Htk:Hid ((l.take (j+1)).map Vl.str=(l.take j).map Vl.str++[xs]):=Lq7 (by rw[aR,List.map_append];rfl);have aH:=Lq7 (aIn (stays aA.out.1 aQ) (aA.out.2.trans (aQ.mono aA.out.2.size)));clear aQ hown aA aR aD aB
    go_wp2_with (at_builtin;refine wpList_append_own _ rfl _ _ 23 rfl (w.heap.size+1) 9 i0 (.string ByteArray.empty) 1 16 Tryz.underlying23 hi hz0 hz1 hz2 rfl (by decide) (.slice aL j cL) j _ rfl aE.out ⟨wr.heap.size,0,none⟩ 1 1 [.string xs] rfl rfl aM.out ?_ ?_ ?_ ?_ ?_)
    ·simp[Value.oneCell']
    ·unfold maxLen;omega
    ·omega
    ·simp;omega
    intro v2 w2 aF aC _;have aG:Hid (OwnS w2 (w.heap.size+1) v2 ((l.take (j+1)).map Vl.str)):=Lq7 (by
     rw[Htk.out];unfold OwnS;rw[List.length_append,lnM,lnT,Nat.min_eq_left hj,List.map_append]
     simpa using aF)
    have aU:=Cw aC (n:=w.heap.size+1) aS.out (by simp;omega);have aV:=Lq7 (aIn ((aU.block w.heap.size (by omega)).trans aH.out.1) (aH.out.2.trans (aU.mono (by omega))));obtain⟨aL2,cL2,aZ,-,-⟩:=aG.out.strsAt;rw[lnM,lnT,Nat.min_eq_left (by omega)] at aZ;subst aZ;clear aF aC aU aH aE q0 q1 q2 q3 q4 q5 r0 r1 r2 r3 r4;go_wp2_with fail;go_roundw
    case rel=>exact⟨j+1,aL2,cL2,by go_num,rfl,by omega,aJ,aG,aV⟩
    case measure=>simp only[intOf];omega
   ·have hR:R=none:=aY.out ⟨x,lgM aD,hk3⟩;obtain⟨xk,xn,xs,xl,xks⟩:=x;have hk3':¬xk=3:=hk3;have hk3b:(xk==3)=false:=(by simpa using hk3');obtain⟨b,off,b1,e1,b2,e2,rfl,-,hbl,r0,r1,r2,r3,r4,-,-⟩:=(Hr.out.below aA.out.2).val aD;have HR:=Lq7 hR;have Hb:=Lq7 (aA.out.2.alloc aA.out.2.size (.cells #[] 9));clear hR hk3 hown aA aD aR aB;go_wp2_with fail;refine bodyPost_ret (v:=.tuple #[.slice (some ⟨wr.heap.size,0,none⟩) 0 0,.bool false]) (by simp[results,Tryz.results18,go_sem]) rfl ?_;rw[HR.out];exact⟨Hb.out,_,rfl⟩
  ·have hR:R=some (l.map Vl.str):=aI.out (fun x hx=>by have:=aB.out;rw[ltL (by omega)] at this;exact this x hx);have aW:Hid (OwnS wr w.heap.size (.slice aL j cL) (l.map Vl.str)):=Lq7 (by have:=hown.out.lower (Nat.le_add_right w.heap.size 1);rwa [ltL (by omega)] at this);have HR:=Lq7 hR;clear hR hown aB;go_wp2_with fail;refine bodyPost_ret (v:=.tuple #[.slice aL j cL,.bool true]) (by simp[results,Tryz.results18,go_sem]) rfl ?_;rw[HR.out];exact⟨aA.out.2,_,rfl,aW.out⟩
theorem L4(k n s l ks)(hk:¬k=4)(a1 c1 a2 c2 w):
  Calls Tryz.prog 18 #[.agg #[.int .i64 k,.int .i64 n,.string s,.slice a1 l c1,.slice a2 ks c2]] w (fun e w'=>Below w.heap.size w w'/\∃x,e = .returned (.tuple #[.slice x 0 0,.bool false])):=by
 obtain⟨n1,n2,n3,n4⟩:=G0 w (.cells #[.int .i64 k,.int .i64 n,.string s,.slice a1 l c1,.slice a2 ks c2] 25) (.cells #[] 9);have H0:=Lq7 n3;have hkb:(k==4)=false:=(by simpa using hk);clear n1 n2 n3 n4;go_enter Tryz.func18,Tryz.ntmps18;go_wp2_with fail;exact bodyPost_ret (v:=.tuple #[.slice (some ⟨w.heap.size+1,0,none⟩) 0 0,.bool false]) (by simp[results,Tryz.results18,go_sem]) rfl ⟨H0.out,_,rfl⟩
theorem N6(k n s l ks)(hck:A7 (.mk k n s l ks)=true)(F a1 c1 a2 c2 w)(hr1:Ag F w a1 (A5 l))(hr2:Ag F w a2 (Bc ks)):
  Calls Tryz.prog 18 #[.agg #[.int .i64 k,.int .i64 n,.string s,.slice a1 l.length c1,.slice a2 ks.length c2]] w (PT11 (B2 (.mk k n s l ks)) w):=by
 by_cases h4:k=4
 ·subst h4;exact N5 n s l ks hck F a1 c1 a2 c2 w hr1 hr2
 ·have hR:B2 (.mk k n s l ks)=none:=by
   unfold B2;rw[if_neg];rintro⟨h,-⟩;exact h4 h
  rw[hR];exact L4 k n s l.length ks.length h4 a1 c1 a2 c2 w
end Go.Proofs.YtkehdallfohjfaaGreatDoor
