/-
  The walk of slices.Concat at two rows of values.
-/
import Derived.Test.YtlbbbapiklendaaGreatDoorGrowL
import Derived.Test.YtlbbbapiklendaaGreatDoorMCopyE
namespace Go.Proofs.YtlbbbapiklendaaGreatDoor
open Go.Value renaming slice->A
open List renaming length_nil->lnN
open Go.Lib renaming hid->Lq7
set_option maxRecDepth 100000
set_option maxHeartbeats 16000000
open Go Go.RowKit
theorem Nq{P w}(base t ty e i size)(ht:P.underlying t=some (.slice e))(hi:P.info? e=some i)(v n xs)(hown:w.ownsRow base e size v n xs)(b c):
  (Builtin.append_ #[t,t] ty #[v,A b 0 c]).run P w = .ok v w:=by
 rcases hown.2 with⟨rfl,rfl⟩|⟨g,cap,cur,rfl,_,_,hnc,_⟩
 ·cases b<;>simp[Builtin.append_,run_underlying ht,sizeOf,typeInfo,hi,Builtin.lenOf,Builtin.firstCells,loadCells,loadCellsFrom]
 ·cases b<;>simp[Builtin.append_,run_underlying ht,sizeOf,typeInfo,hi,Builtin.lenOf,Builtin.firstCells,hnc,storeCells,loadCells,loadCellsFrom]
theorem Io{P:Program}{ops:Array Oper}{rest:List Oper}{o:Oper}{a:Act}{w:World}{Q:Exit->Act->World->Prop}(hgd:o.guard=none)(s x:Operand)(t:TypeId)
  (ho:o.op = .call { callee:=.builtin .append,args:=#[s,x],argTypes:=#[t,t]})
  (base:Nat) (e:TypeId) (i:TypeInfo) (z:Value) (size bytes:Nat) (ht:P.underlying t=some (.slice e)) (hi:P.info? e=some i) (hz:i.zero=some z)
  (hsize:i.size=size) (hby:i.bytes=bytes) (hzs:z.cells.size=size) (hsz:0<size)
  (v:Value) (F:Nat->Prop) (l:List (List Dat)) (hs:a.eval s=v) (hown:OwnD F w base e size v l)
  (b:Option Addr) (c:Nat) (l2:List (List Dat)) (hx:a.eval x = A b l2.length c) (hrow:Ac (fun b=>F b/\v.ownBlock≠some b) w b l2) (hlen:∀ds∈l2,ds.length=size) (hpl:∀ds∈l2,Mc ds)
  (h63:l.length+l2.length<=maxLen) (hbytes:(l.length+l2.length)*bytes<=140737488355328) (hbase:base<=w.heap.size)
  (h:∀v' w',OwnD F w' base e size v' (l++l2)->w.grownBy w' v.ownBlock->(∀g,v'.ownBlock=some g->v.ownBlock=some g\/w.heap.size<=g)->wpList P ops Q rest (a.put o.dst v') w'):wpList P ops Q (o::rest) a w:=by
 cases l2 with
 | nil=>
  obtain⟨css,h1,h2,h3,h4⟩:=hown;have hr:=Nq base t o.type e i size ht hi v _ _ h3 b c;refine wpList_plain hgd fun K hK=>?_;unfold Oper.wp execOp;have hx':a.eval x = A b 0 c:=hx;simp only[ho,resolve,invoke,builtin,Sem.run_bind,Sem.run_pure,Result.andThen_ok,List.map_toArray,List.map_cons,List.map_nil,hs,hx',hr];exact hK _ _ (h v w (by rw[List.append_nil];exact⟨css,h1,h2,h3,h4⟩) (Dn _ _) (fun g hg=> .inl hg))
 | cons d r=>
  obtain⟨b',off,cs,rfl,-⟩:=hrow 0 d rfl;exact Bv hgd s x t ho base e i z size bytes ht hi hz hsize hby hzs hsz v F l hs hown b' off c (d::r) hx hrow hlen hpl h63 hbytes hbase h
theorem ownD_new(F)(w:World)(base:Nat)(e)(size:Nat)(cs)(cap:Nat)(hb:base<=w.heap.size)(hc:cap<=maxLen)(hs:cs.size=cap*size):OwnD F (w.alloc (.cells cs e)) base e size (A (some ⟨w.heap.size,0,none⟩) 0 cap) []:=
 ⟨[],rfl,by simp,⟨by simp,.inr ⟨w.heap.size,cap,cs,rfl,hb,heap_alloc_new w _,Nat.zero_le _,hc,hs,by simp⟩⟩,by simp⟩
theorem Aaf(F)(n:Nat)(w:World)(hn:n<=2000):Calls Tryz.prog 228 #[A none 0 0,.int .i64 n] w (fun e w'=>∃v,e = .returned v/\OwnD F w' w.heap.size 53 5 v []/\Below w.heap.size w w'):=by
 obtain⟨i0,hi,aF,aH,aG⟩:=info_parts infoVal;by_cases hz:n=0
 ·subst hz;refine(Any8.slices_Grow_room Tryz.growV none 0 0 0 w (Nat.le_refl _) (by omega) (by omega) (by omega)).mono ?_;rintro e w' ⟨rfl,rfl⟩;exact⟨_,rfl,OwnD.nil _ _ _ _ _,Below.refl _ _⟩
 ·refine(Any8.slices_Grow_grow Tryz.growV i0 _ hi aF (by omega) none 0 0 n [] w (Nat.le_refl _) (by omega) (by rw[aG];omega) (by omega) (by simp) (fun _=>rfl) (fun a h=>by cases h)).mono ?_;rintro e w' ⟨rfl,rfl⟩;have hge:=grownCap_ge w (0+n) 0 53;have hle:=grownCap_le_maxLen w (0+n) 0 53 (by unfold maxLen;omega);have hb:Below w.heap.size w (w.drew.alloc (.cells ((([]:List Value).toArray++Builtin.zeroCells (Value.agg #[.int .i64 0,.int .i64 0,.string ByteArray.empty,A none 0 0,A none 0 0]).cells (0+n - 0))++Builtin.zeroCells (Value.agg #[.int .i64 0,.int .i64 0,.string ByteArray.empty,A none 0 0,A none 0 0]).cells (grownCap w (0+n) 0 53-(0+n))) 53)):=((Below.refl _ w).drew).alloc (Nat.le_refl _) _;refine⟨_,rfl,?_,hb⟩;refine ownD_new F w.drew w.heap.size 53 5 _ _ (Nat.le_refl _) hle ?_;rw[Array.size_append,Array.size_append,size_zeroCells,size_zeroCells];show 0+(0+n - 0)*5+(grownCap w (0+n) 0 53-(0+n))*5=grownCap w (0+n) 0 53*5;omega
def PConcat(F:Nat->Prop)(l:List Vl)(w:World)(e:Ending)(w':World):Prop:=Below w.heap.size w w'/\∃(x:Option Addr) (c:Nat),e = .returned (A x l.length c)/\Ac (fun b=>F b\/w.heap.size<=b) w' x (Ar l)
theorem Uz(F l m a b ca cb ab cap T w)(hF:∀b,F b->b<w.heap.size)(hra:Ac F w a (Ar l))(hrb:Ac F w b (Ar m))(hab:w.heap[ab]? = some (.cells #[A a l.length ca,A b m.length cb] T (0,0)))(hl:l.length<=1000)(hm:m.length<=1000):
  Calls Tryz.prog 214 #[A (some ⟨ab,0,none⟩) 2 cap] w (PConcat F (l++m) w):=by
 have aJ:=Lq7 hab;have Hr:=Lq7 (And.intro hra hrb);have HF:=Lq7 hF;obtain⟨i0,hi,aF,aH,aG⟩:=info_parts infoVal;obtain⟨q0,q1,q2,q3,q4⟩:=A8 aJ.out;go_enter Tryz.func214,Tryz.ntmps214;go_wp2_with fail
 go_loopw [3,11] (fun v i wr=>wr=w/\((v = .int .i64 0/\i = .int .i64 0)\/(v = .int .i64 l.length/\i = .int .i64 1)\/(v = .int .i64 ((l.length+m.length:Nat):Int)/\i = .int .i64 2))) (fun _ i _=>3-(intOf i).toNat)
 case atStart=>exact⟨rfl,.inl ⟨rfl,rfl⟩⟩
 case round=>
  obtain⟨hwr,hrel⟩:=hrel;subst hwr;rcases hrel with⟨rfl,rfl⟩|⟨rfl,rfl⟩|⟨rfl,rfl⟩
  ·go_wp2_with fail;go_roundw
   case rel=>exact⟨by first|rfl|trivial,.inr (.inl ⟨by go_num,by go_num⟩)⟩
   case measure=>simp only[intOf];omega
  ·go_wp2_with fail;go_roundw
   case rel=>exact⟨by first|rfl|trivial,.inr (.inr ⟨by go_num,by go_num⟩)⟩
   case measure=>simp only[intOf];omega
  ·clear q0 q1 q2 q3 q4;rename World=>w0;have HG:=Lq7 (Aaf F (l.length+m.length) w0 (by omega));go_wp2_with fail;refine HG.out.mono ?_;rintro e w1 ⟨v0,rfl,hown,aQ⟩;have H1:=Lq7 (And.intro hown aQ);have Hab1:=Lq7 (stays aJ.out aQ);go_wp2_with fail
   go_loopw [6,27] (fun v i W=>Hid (Below w0.heap.size w0 W)/\∃L:List Vl,Hid (OwnD F W w0.heap.size 53 5 v (Ar L))/\((i = .int .i64 0/\L=[])\/(i = .int .i64 1/\L=l)\/(i = .int .i64 2/\L=l++m))) (fun _ i _=>3-(intOf i).toNat)
   case atStart=>exact⟨Lq7 H1.out.2,[],Lq7 (by rw[Ar];exact H1.out.1),.inl ⟨rfl,rfl⟩⟩
   case round=>
    obtain⟨aD,L,hown,hrel⟩:=hrel;obtain⟨q0,q1,q2,q3,q4⟩:=A8 (stays aJ.out aD.out);rcases hrel with⟨rfl,hL⟩|⟨rfl,hL⟩|⟨rfl,hL⟩
    ·rw[hL] at hown
     go_wp2_with (at_builtin;refine Io rfl _ _ 50 rfl w0.heap.size 53 i0 _ 5 80 Tryz.underlying50 hi aF aH aG rfl (by decide) u6 F (Ar ([])) rfl hown.out a ca (Ar l) (by rw[Bi];rfl) ?_ (fun ds h=>valsD_all (p:=fun ds=>ds.length=5) valD_len _ ds h) (fun ds h=>valsD_all (p:=Mc) L4 _ ds h) ?_ ?_ aD.out.size ?_)
     ·exact(Hr.out.1.below aD.out).mono fun g hg hl=>⟨⟨hg,fun h=>by have:=(hown.out.block_lt h).1;have:=HF.out g hg;omega⟩,hl,rfl⟩
     ·rw[Bi,Bi];unfold maxLen;(try simp only[lnN]);omega
     ·rw[Bi,Bi];(try simp only[lnN]);omega
     intro v2 W2 aA aB aM;rw[<-Fi] at aA;have aC:=Lq7 aA;have aE:Hid (Below w0.heap.size w0 W2):=Lq7 (aD.out.trans (Cz aB (fun g hg=>(hown.out.block_lt hg).1) aD.out.size));go_wp2_with fail;go_roundw
     case rel=>exact⟨aE,_,aC,.inr (.inl ⟨by go_num,by simp⟩)⟩
     case measure=>simp only[intOf];omega
    ·rw[hL] at hown
     go_wp2_with (at_builtin;refine Io rfl _ _ 50 rfl w0.heap.size 53 i0 _ 5 80 Tryz.underlying50 hi aF aH aG rfl (by decide) u6 F (Ar l) rfl hown.out b cb (Ar m) (by rw[Bi];rfl) ?_ (fun ds h=>valsD_all (p:=fun ds=>ds.length=5) valD_len _ ds h) (fun ds h=>valsD_all (p:=Mc) L4 _ ds h) ?_ ?_ aD.out.size ?_)
     ·exact(Hr.out.2.below aD.out).mono fun g hg hl=>⟨⟨hg,fun h=>by have:=(hown.out.block_lt h).1;have:=HF.out g hg;omega⟩,hl,rfl⟩
     ·rw[Bi,Bi];unfold maxLen;(try simp only[lnN]);omega
     ·rw[Bi,Bi];(try simp only[lnN]);omega
     intro v2 W2 aA aB aM;rw[<-Fi] at aA;have aC:=Lq7 aA;have aE:Hid (Below w0.heap.size w0 W2):=Lq7 (aD.out.trans (Cz aB (fun g hg=>(hown.out.block_lt hg).1) aD.out.size));go_wp2_with fail;go_roundw
     case rel=>exact⟨aE,_,aC,.inr (.inr ⟨by go_num,rfl⟩)⟩
     case measure=>simp only[intOf];omega
    ·rw[hL] at hown;obtain⟨aX,cX,hv,hrow⟩:=hown.out.wider (G:=fun b=>F b\/w0.heap.size<=b) (fun b h=> .inl h) |>.rowAt (fun g hg=> .inr (hown.out.block_lt hg).1);subst hv;rw[Bi];have aN:=Lq7 hrow;go_wp2_with fail;go_ret;exact⟨aD.out,aX,cX,by simp,by have:=aN.out;simpa using this⟩
end Go.Proofs.YtlbbbapiklendaaGreatDoor