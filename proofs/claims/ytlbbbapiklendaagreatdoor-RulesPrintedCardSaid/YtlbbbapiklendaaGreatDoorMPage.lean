/-
  The walks of (*strings.Builder).copyCheck,WriteString,WriteByte and String where the builder is the head of a printer's page (turned from the library's own proofs). (And what it stands on.)
-/
import Derived.Lib.OwnKind
import Derived.Lib.BufferKept
import Derived.Test.YtlbbbapiklendaaGreatDoorShelf
namespace Go.Proofs.YtlbbbapiklendaaGreatDoor
open Go.Value renaming slice->E,pointer->C
open Option renaming some->D,none->A
open Go Go.RowKit
open Go.RowKit.Below renaming refl->bRf
open Go.World renaming setCell->wsC
set_option maxRecDepth 100000
set_option maxHeartbeats 16000000
theorem bldSize:(Tryz.prog.info? 91).map (·.size)=D 2:=by kernel_rfl
theorem bldLies:liesAt Tryz.prog Tryz.prog.depth 91 (2 / Tryz.prog.cellsOf 91) 0 91 1=true:=by kernel_rfl
theorem infoByte:(Tryz.prog.info? 5).map (fun i=>(i.zero,i.size,i.bytes))=D (D (.int .u8 0),1,1):=by kernel_rfl
theorem Uv(b w)(h0:w.cell? ⟨b,0,A⟩=D (C (D ⟨b,0,A⟩))):
  Calls Tryz.prog 97 #[C (D ⟨b,0,A⟩)] w fun e w'=>e = .returned (.tuple #[])/\w'=w:=by
 obtain⟨j,hj,_⟩:=Option.map_eq_some_iff.1 bldSize;go_enter Tryz.func97,Tryz.ntmps97;go_wp2;rw[Lib.run_neq_ptr_same w _ Tryz.underlying88 hj];go_wp2
 go_end0
 exact⟨rfl,rfl⟩
theorem Z9(b w)(h0:w.cell? ⟨b,0,A⟩=D (C A))(hsh:w.shape? b=D (91,2))(hfz:w.frozen? ⟨b,0,A⟩=false):
  Calls Tryz.prog 97 #[C (D ⟨b,0,A⟩)] w fun e w'=>e = .returned (.tuple #[])/\w'=w.setCell ⟨b,0,A⟩ (C (D ⟨b,0,A⟩)):=by
 obtain⟨j,hj,hjs⟩:=Option.map_eq_some_iff.1 bldSize;go_enter Tryz.func97,Tryz.ntmps97;go_wp2;rw[Lib.run_to_unsafe w ⟨b,0,A⟩ Tryz.underlying88 Tryz.underlying191 hj (by rw[hjs];decide) hsh (Nat.zero_lt_succ 1)];simp only[Result.andThen];rw[Oper.upon_value];go_wp2;rw[run_callFunc_extern Tryz.func150 (by kernel_rfl) (by kernel_rfl) (by kernel_rfl) (e:=Extern.AbiNoEscape.same) (by kernel_rfl)];rw[Lib.run_noEscape];simp only[Result.andThen];rw[Oper.upon_value];go_wp2;rw[Lib.run_from_unsafe w ⟨b,0,A⟩ Tryz.underlying191 Tryz.underlying88 hj hsh bldLies];simp only[Result.andThen];rw[Oper.upon_value];go_wp2
 go_end0
 exact⟨rfl,rfl⟩
theorem Aaa(B b bs w)(h:Lib.IsBuilder 91 5 B b bs w):
  Calls Tryz.prog 97 #[C (D ⟨b,0,A⟩)] w fun e w'=>e = .returned (.tuple #[])/\(Lib.BuilderAt 91 5 B b (C (D ⟨b,0,A⟩)) bs w'/\Below B w w'):=by
 rcases h with h|h
 ·refine(Z9 b w h.cell0 h.shape h.frozen0).mono ?_;rintro e w' ⟨rfl,rfl⟩;exact⟨rfl,h.used _,(bRf B w).setCell (p:=⟨b,0,A⟩) h.1 _⟩
 ·refine(Uv b w h.cell0).mono ?_;rintro e w' ⟨rfl,rfl⟩;exact⟨rfl,h,bRf B _⟩
theorem Rm(B b bs s w)(h:Lib.IsBuilder 91 5 B b bs w)(hlen:bs.length+s.size<=140737488355328)(hBw:B<=w.heap.size):
  Calls Tryz.prog 90 #[C (D ⟨b,0,A⟩),.string s] w fun e w'=>e = .returned (.tuple #[.int .i64 s.size,.nilIface])/\(Lib.BuilderAt 91 5 B b (C (D ⟨b,0,A⟩)) (bs++Lib.strCells s) w'/\Below B w w'):=by
 obtain⟨i0,hi,hz0,hz1,hz2⟩:=info_parts infoByte;go_enter Tryz.func90,Tryz.ntmps90;go_wp2_with fail;refine(Aaa B b bs _ h).mono ?_;rintro e w1 ⟨rfl,h1,aC⟩;obtain⟨hB,v,hbk,hown,hne⟩:=h1;have c0:w1.cell? ⟨b,0,A⟩=D (C (D ⟨b,0,A⟩)):=(by rw[Lib.cell_of_heap hbk];rfl);have c1:w1.cell? ⟨b,1,A⟩=D v:=(by rw[Lib.cell_of_heap hbk];rfl)
 go_wp2_with (at_builtin;refine Lib.wpList_append_own_string _ rfl _ _ 89 9 rfl B 5 i0 Tryz.underlying89 Tryz.underlying9 hi hz0 hz1 hz2 _ _ _ rfl hown s rfl ?c3 ?c4 ?c5 ?_)
 case c3=>unfold maxLen;omega
 case c4=>omega
 case c5=>have:=aC.size;omega
 intro v' w2 hown' aA _;have hlt:b<w1.heap.size:=by
  rcases Nat.lt_or_ge b w1.heap.size with h'|h'
  ·exact h'
  ·simp[Array.getElem?_eq_none h'] at hbk
 have aB:w2.heap[b]? = D (.cells #[C (D ⟨b,0,A⟩),v] 91 (0,0)):=by
  rw[aA.block b hlt (fun e=>hne e.symm)];exact hbk
 have d0:w2.cell? ⟨b,0,A⟩=D (C (D ⟨b,0,A⟩)):=(by rw[Lib.cell_of_heap aB];rfl);have d1:w2.cell? ⟨b,1,A⟩=D v:=(by rw[Lib.cell_of_heap aB];rfl);have f1:w2.frozen? ⟨b,1,A⟩=false:=Lib.frozen_of_heap aB 1;obtain⟨ao,n',cap,rfl⟩:∃ao n' cap,v' = E ao n' cap:=by
  rcases hown'.2 with⟨hv,_⟩|⟨g,cap,cur,hv,_⟩
  ·exact⟨_,_,_,hv⟩
  ·exact⟨_,_,_,hv⟩
 go_wp2
 go_ret2
 refine⟨rfl,?_,?_⟩
 ·exact Lib.BuilderAt.put (T:=91) (e:=5) hB aB (bs':=bs++Lib.strCells s) (by simpa[Lib.strCells_length] using hown') (by decide)
 ·exact(aC.grown aA (by have:=aC.size;omega) (fun k hk=>(hown.lt k hk).1)).setCell (p:=⟨b,1,A⟩) hB _
theorem pgLies:liesAt Tryz.prog Tryz.prog.depth 93 (3 / Tryz.prog.cellsOf 93) 0 91 1=true:=by kernel_rfl
def Dg(B b:Nat)(tb:Int)(bs:List Value)(w:World):Prop:=
 B<=b/\∃p v,(p = C A\/p = C (D ⟨b,0,A⟩))/\w.heap[b]? = D (.cells #[p,v,.int .i64 tb] 93 (0,0))/\w.ownsRow B 5 1 v bs.length bs/\v.ownBlock≠D b
def Kp(B b:Nat)(w w':World):Prop:=Below B w w'/\Lib.OthersKept 5 (D b) w w'
variable {B b:Nat} {tb:Int} {bs:List Value} {w:World}
theorem Kp.refl(B b w):Kp B b w w:=⟨bRf B w,Lib.OthersKept.refl _ _ _⟩
theorem Kp.trans{u v:World}(h:Kp B b w u)(k:Kp B b u v):Kp B b w v:=⟨h.1.trans k.1,h.2.trans k.2⟩
theorem Kp.later{u v:World}(h:Kp B b w u)(hB:B<=w.heap.size)(k:Below u.heap.size u v):Kp B b w v:=⟨h.1.trans (k.mono (Nat.le_trans hB h.1.size)),h.2.below k⟩
theorem Kp.stay{u:World}(h:Kp B b w u){k:Nat}{cs:Array Value}{T:TypeId}{fz:Nat×Nat}(hk:w.heap[k]? = D (.cells cs T fz))(hT:T≠5)(hb:k≠b):u.heap[k]? = D (.cells cs T fz):=
 h.2 k _ hk (fun e=>hb (Option.some.inj e)) fun c f e=>hT (by cases e;rfl)
theorem Dg.put{p v v':Value}{bs':List Value}(hB:B<=b)(hp:p = C A\/p = C (D ⟨b,0,A⟩))(hb:w.heap[b]? = D (.cells #[p,v,.int .i64 tb] 93 (0,0)))(hown:w.ownsRow B 5 1 v' bs'.length bs'):Dg B b tb bs' (w.setCell ⟨b,1,A⟩ v'):=by
 have aB:=Lib.ownBlock_ne hown hb (by decide);refine⟨hB,p,v',hp,?_,?_,aB⟩
 ·simp[wsC,Array.getElem?_modify,hb]
 ·exact hown.kept (row:=D b) ⟨rfl,rfl,rfl,by simp[wsC],fun k _ hk=>Below.heap_setCell _ _ _ _ (fun e=>hk (by simp[e]))⟩ (Or.inr aB)
theorem Dg.tabs(h:Dg B b tb bs w)(t:Int):Dg B b t bs (w.setCell ⟨b,2,A⟩ (.int .i64 t)):=by
 obtain⟨hB,p,v,hp,hb,hown,aB⟩:=h;refine⟨hB,p,v,hp,?_,?_,aB⟩
 ·simp[wsC,Array.getElem?_modify,hb]
 ·exact hown.kept (row:=D b) ⟨rfl,rfl,rfl,by simp[wsC],fun k _ hk=>Below.heap_setCell _ _ _ _ (fun e=>hk (by simp[e]))⟩ (Or.inr aB)
theorem Dg.facts(h:Dg B b tb bs w):w.cell? ⟨b,2,A⟩=D (.int .i64 tb)/\w.frozen? ⟨b,2,A⟩=false/\B<=b/\b<w.heap.size:=by
 obtain⟨hB,p,v,hp,hb,hown,aB⟩:=h;refine⟨by rw[Lib.cell_of_heap hb];rfl,Lib.frozen_of_heap hb 2,hB,?_⟩;rcases Nat.lt_or_ge b w.heap.size with h'|h'
 ·exact h'
 ·simp[Array.getElem?_eq_none h'] at hb
theorem Dg.alloc(h:Dg B b tb bs w)(o:Obj):Dg B b tb bs (w.alloc o):=by
 have aE:=h.facts.2.2.2;obtain⟨hB,p,v,hp,hb,hown,aB⟩:=h;exact⟨hB,p,v,hp,(Lib.alloc_old w o b aE).trans hb,hown.alloc o,aB⟩
theorem Dg.drew(h:Dg B b tb bs w):Dg B b tb bs w.drew:=h
theorem Dg.below{u:World}(h:Dg B b tb bs w)(hb:Below w.heap.size w u):Dg B b tb bs u:=by
 have aE:=h.facts.2.2.2;obtain⟨hB,p,v,hp,hbk,⟨h1,h2⟩,aB⟩:=h;refine⟨hB,p,v,hp,(hb.block b aE).trans hbk,⟨h1,?_⟩,aB⟩;rcases h2 with h2|⟨g,cap,cur,rfl,h3,h4,h5⟩
 ·exact .inl h2
 ·exact .inr ⟨g,cap,cur,rfl,h3,(hb.block g (Array.getElem?_eq_some_iff.1 h4).1).trans h4,h5⟩
theorem Dg.fresh(w:World):Dg w.heap.size w.heap.size 0 [] (w.alloc (.cells #[C A,E A 0 0,.int .i64 0] 93)):=
 ⟨Nat.le_refl _,C A,E A 0 0,.inl rfl,heap_alloc_new w _,World.ownsRow_nil _ _ _ _,by simp[Value.ownBlock]⟩
theorem pg_fresh(b w)(h0:w.cell? ⟨b,0,A⟩=D (C A))(hsh:w.shape? b=D (93,3))(hfz:w.frozen? ⟨b,0,A⟩=false):
  Calls Tryz.prog 97 #[C (D ⟨b,0,A⟩)] w fun e w'=>e = .returned (.tuple #[])/\w'=w.setCell ⟨b,0,A⟩ (C (D ⟨b,0,A⟩)):=by
 obtain⟨j,hj,hjs⟩:=Option.map_eq_some_iff.1 bldSize;go_enter Tryz.func97,Tryz.ntmps97;go_wp2;rw[Lib.run_to_unsafe w ⟨b,0,A⟩ Tryz.underlying88 Tryz.underlying191 hj (by rw[hjs];decide) hsh (Nat.zero_lt_succ 2)];simp only[Result.andThen];rw[Oper.upon_value];go_wp2;rw[run_callFunc_extern Tryz.func150 (by kernel_rfl) (by kernel_rfl) (by kernel_rfl) (e:=Extern.AbiNoEscape.same) (by kernel_rfl)];rw[Lib.run_noEscape];simp only[Result.andThen];rw[Oper.upon_value];go_wp2;rw[Lib.run_from_unsafe w ⟨b,0,A⟩ Tryz.underlying191 Tryz.underlying88 hj hsh pgLies];simp only[Result.andThen];rw[Oper.upon_value];go_wp2
 go_end0
 exact⟨rfl,rfl⟩
theorem Vq(h:Dg B b tb bs w):
  Calls Tryz.prog 97 #[C (D ⟨b,0,A⟩)] w fun e w'=>e = .returned (.tuple #[])/\(∃v,w'.heap[b]? = D (.cells #[C (D ⟨b,0,A⟩),v,.int .i64 tb] 93 (0,0))/\w'.ownsRow B 5 1 v bs.length bs/\v.ownBlock≠D b)/\Kp B b w w':=by
 obtain⟨hB,p,v,hp,hb,hown,aB⟩:=h;have c0:w.cell? ⟨b,0,A⟩=D p:=(by rw[Lib.cell_of_heap hb];rfl);rcases hp with rfl|rfl
 ·refine(pg_fresh b w c0 (by simp[World.shape?,hb]) (Lib.frozen_of_heap hb 0)).mono ?_;rintro e w' ⟨rfl,rfl⟩;refine⟨rfl,⟨v,?_,?_,aB⟩,(bRf B w).setCell (p:=⟨b,0,A⟩) hB _,(Lib.OthersKept.refl _ _ _).setCell ⟨b,0,A⟩ rfl _⟩
  ·simp[wsC,Array.getElem?_modify,hb]
  ·exact hown.kept (row:=D b) ⟨rfl,rfl,rfl,by simp[wsC],fun k _ hk=>Below.heap_setCell _ _ _ _ (fun e=>hk (by simp[e]))⟩ (Or.inr aB)
 ·refine(Uv b w c0).mono ?_;rintro e w' ⟨rfl,rfl⟩;exact⟨rfl,⟨v,hb,hown,aB⟩,Kp.refl B b _⟩
theorem pg_write(s:ByteArray)(h:Dg B b tb bs w)(hlen:bs.length+s.size<=140737488355328)(hBw:B<=w.heap.size):
  Calls Tryz.prog 90 #[C (D ⟨b,0,A⟩),.string s] w fun e w'=>e = .returned (.tuple #[.int .i64 s.size,.nilIface])/\(Dg B b tb (bs++Lib.strCells s) w'/\Kp B b w w'):=by
 obtain⟨i0,hi,aF,aG,aH⟩:=info_parts infoByte;have hB:=h.1;go_enter Tryz.func90,Tryz.ntmps90;go_wp2_with fail;refine(Vq h).mono ?_;rintro e w1 ⟨rfl,h1,aD,aJ⟩;obtain⟨v,hbk,hown,aB⟩:=h1;have c0:w1.cell? ⟨b,0,A⟩=D (C (D ⟨b,0,A⟩)):=(by rw[Lib.cell_of_heap hbk];rfl);have c1:w1.cell? ⟨b,1,A⟩=D v:=(by rw[Lib.cell_of_heap hbk];rfl)
 go_wp2_with (at_builtin;refine Lib.wpList_append_own_string _ rfl _ _ 89 9 rfl B 5 i0 Tryz.underlying89 Tryz.underlying9 hi aF aG aH _ _ _ rfl hown s rfl ?c3 ?c4 ?c5 ?_)
 case c3=>unfold maxLen;omega
 case c4=>omega
 case c5=>have:=aD.size;omega
 intro v' w2 hown' aA _;have aE:b<w1.heap.size:=by
  rcases Nat.lt_or_ge b w1.heap.size with h'|h'
  ·exact h'
  ·simp[Array.getElem?_eq_none h'] at hbk
 have aC:w2.heap[b]? = D (.cells #[C (D ⟨b,0,A⟩),v,.int .i64 tb] 93 (0,0)):=by
  rw[aA.block b aE (fun e=>aB e.symm)];exact hbk
 have d0:w2.cell? ⟨b,0,A⟩=D (C (D ⟨b,0,A⟩)):=(by rw[Lib.cell_of_heap aC];rfl);have d1:w2.cell? ⟨b,1,A⟩=D v:=(by rw[Lib.cell_of_heap aC];rfl);have f1:w2.frozen? ⟨b,1,A⟩=false:=Lib.frozen_of_heap aC 1;obtain⟨ao,n',cap,rfl⟩:∃ao n' cap,v' = E ao n' cap:=by
  rcases hown'.2 with⟨hv,_⟩|⟨g,cap,cur,hv,_⟩
  ·exact⟨_,_,_,hv⟩
  ·exact⟨_,_,_,hv⟩
 go_wp2
 go_ret2
 refine⟨rfl,?_,?_⟩
 ·exact Dg.put hB (.inr rfl) aC (bs':=bs++Lib.strCells s) (by simpa[Lib.strCells_length] using hown')
 ·exact⟨(aD.grown aA (by have:=aD.size;omega) (fun k hk=>(hown.lt k hk).1)).setCell (p:=⟨b,1,A⟩) hB _,(aJ.grown aA (Lib.ownsRow_kind hown)).setCell ⟨b,1,A⟩ rfl _⟩
theorem pg_byte(c:Int)(h:Dg B b tb bs w)(hlen:bs.length+1<=140737488355328)(hBw:B<=w.heap.size):
  Calls Tryz.prog 49 #[C (D ⟨b,0,A⟩),.int .u8 c] w fun e w'=>e = .returned .nilIface/\(Dg B b tb (bs++[.int .u8 c]) w'/\Kp B b w w'):=by
 obtain⟨i0,hi,aF,aG,aH⟩:=info_parts infoByte;have hB:=h.1;go_enter Tryz.func49,Tryz.ntmps49;go_wp2_with fail;refine(Vq h).mono ?_;rintro e w1 ⟨rfl,h1,aD,aJ⟩;obtain⟨v,hbk,hown,aB⟩:=h1;have c0:w1.cell? ⟨b,0,A⟩=D (C (D ⟨b,0,A⟩)):=(by rw[Lib.cell_of_heap hbk];rfl);have c1:w1.cell? ⟨b,1,A⟩=D v:=(by rw[Lib.cell_of_heap hbk];rfl)
 go_wp2_with (at_builtin;refine wpList_append_own _ rfl _ _ 89 rfl B 5 i0 (.int .u8 0) 1 1 Tryz.underlying89 hi aF aG aH rfl (by decide) _ _ _ rfl (hown.alloc _) ⟨w1.heap.size,0,A⟩ 1 1 [.int .u8 c] rfl rfl ?c1 ?c2 ?c3 ?c4 ?c5 ?_)
 case c1=>
  intro j u hj
  match j,hj with
  | 0,hj=>simp at hj;subst hj;simp[Addr.add]
 case c2=>intro u hu;simp at hu;subst hu;rfl
 case c3=>unfold maxLen;omega
 case c4=>omega
 case c5=>have:=aD.size;simp;omega
 intro v' w2 hown' aA _;have aE:b<w1.heap.size:=by
  rcases Nat.lt_or_ge b w1.heap.size with h'|h'
  ·exact h'
  ·simp[Array.getElem?_eq_none h'] at hbk
 have aC:w2.heap[b]? = D (.cells #[C (D ⟨b,0,A⟩),v,.int .i64 tb] 93 (0,0)):=by
  rw[aA.block b (by simp;omega) (fun e=>aB e.symm),Lib.alloc_old w1 _ b aE];exact hbk
 have d0:w2.cell? ⟨b,0,A⟩=D (C (D ⟨b,0,A⟩)):=(by rw[Lib.cell_of_heap aC];rfl);have d1:w2.cell? ⟨b,1,A⟩=D v:=(by rw[Lib.cell_of_heap aC];rfl);have f1:w2.frozen? ⟨b,1,A⟩=false:=Lib.frozen_of_heap aC 1;obtain⟨g,cap,rfl⟩:∃g cap,v' = E (D ⟨g,0,A⟩) (bs.length+1) cap:=by
  rcases hown'.2 with⟨_,h0⟩|⟨g,cap,cur,hv,_⟩
  ·omega
  ·exact⟨g,cap,hv⟩
 go_wp2;go_ret;refine⟨rfl,?_,?_⟩
 ·exact Dg.put hB (.inr rfl) aC (bs':=bs++[.int .u8 c]) (by simpa using hown')
 ·exact⟨((aD.alloc (by have:=aD.size;omega) _).grown aA (by have:=aD.size;simp;omega) (fun k hk=>(hown.lt k hk).1)).setCell (p:=⟨b,1,A⟩) hB _,((aJ.alloc _).grown aA (Lib.ownsRow_kind (hown.alloc _))).setCell ⟨b,1,A⟩ rfl _⟩
theorem Pb{l:List UInt8}(s:ByteArray)(h:Dg B b tb (Lib.byteCells l) w)(hlen:l.length+s.size<=1000000000)(hBw:B<=w.heap.size):
  Calls Tryz.prog 90 #[C (D ⟨b,0,A⟩),.string s] w fun e w'=>e = .returned (.tuple #[.int .i64 s.size,.nilIface])/\Dg B b tb (Lib.byteCells (l++s.data.toList)) w'/\Kp B b w w':=by
 refine(pg_write s h (by rw[Lib.byteCells_length];omega) hBw).mono ?_;rintro e w' ⟨rfl,h1,h2⟩;rw[Lib.strCells_eq,<-Lib.byteCells_append] at h1;exact⟨rfl,h1,h2⟩
theorem My{l:List UInt8}(c:UInt8)(z:Int)(hz:z=c.toNat)(h:Dg B b tb (Lib.byteCells l) w)(hlen:l.length+1<=1000000000)(hBw:B<=w.heap.size):
  Calls Tryz.prog 49 #[C (D ⟨b,0,A⟩),.int .u8 z] w fun e w'=>e = .returned .nilIface/\Dg B b tb (Lib.byteCells (l++[c])) w'/\Kp B b w w':=by
 subst hz;refine(pg_byte c.toNat h (by rw[Lib.byteCells_length];omega) hBw).mono ?_;rintro e w' ⟨rfl,h1,h2⟩;rw[show([.int .u8 (c.toNat:Int)]:List Value)=Lib.byteCells [c] from rfl,<-Lib.byteCells_append] at h1;exact⟨rfl,h1,h2⟩
theorem cellsU8:Tryz.prog.cellsOf 5=1:=by kernel_rfl
theorem Aa5(l:List UInt8)(h:Dg B b tb (Lib.byteCells l) w)(h0:l≠[]):
  Calls Tryz.prog 28 #[C (D ⟨b,0,A⟩)] w fun e w'=>e = .returned (.string ⟨l.toArray⟩)/\Below B w w':=by
 obtain⟨hB,p,v,hp,hbk,hown,aB⟩:=h;have hl0:l.length≠0:=(by simpa using h0);rw[Lib.byteCells_length] at hown;obtain⟨g,cap,cur,rfl,hbg,hg,hnc,hcm,hcs,htake⟩:∃g cap cur,v = E (D ⟨g,0,A⟩) l.length cap/\B<=g/\w.heap[g]? = D (.cells cur 5 (0,0))/\l.length<=cap/\cap<=maxLen/\cur.size=cap*1/\cur.toList.take (l.length*1)=Lib.byteCells l:=by
  rcases hown.2 with⟨_,hz⟩|⟨g,cap,cur,hv,r⟩
  ·exact absurd hz hl0
  ·exact⟨g,cap,cur,hv,r⟩
 have c1:w.drew.cell? ⟨b,1,A⟩=D (E (D ⟨g,0,A⟩) l.length cap):=by
  have:w.drew.heap[b]? = D (.cells #[p,E (D ⟨g,0,A⟩) l.length cap,.int .i64 tb] 93 (0,0)):=hbk;rw[Lib.cell_of_heap this];rfl
 have hSD:(Builtin.unsafeSliceData_ #[89] 115 #[E (D ⟨g,0,A⟩) l.length cap]).run Tryz.prog w.drew = .ok (C (D ⟨g,0,A⟩)) w.drew:=
  Lib.run_unsafeSliceData_row _ _ _ _ _ _ (by omega)
 have hUS:(Builtin.unsafeString_ #[115,3] 9 #[C (D ⟨g,0,A⟩),.int .i64 l.length]).run Tryz.prog w.drew = .ok (.string ⟨l.toArray⟩) (w.drew.freeze ⟨g,0,A⟩ l.length):=by
  refine Lib.run_unsafeString_row w.drew 115 3 9 5 Tryz.underlying115 cellsU8 g cur.size (by have hg':w.drew.heap[g]? = D (.cells cur 5 (0,0)):=hg;simp[World.shape?,hg']) l h0 (by omega) (by unfold maxLen at hcm;omega) ?_;intro j x hx;have:=hown.cells (g:=g) rfl j (.int .u8 x.toNat) (by simp[Lib.byteCells,hx]);exact this
 have mixed:Tryz.prog.follows Departure.mixedOrders=true:=(by kernel_rfl);go_enter Tryz.func28,Tryz.ntmps28;go_wp2
 go_region_o
 all_goals (go_wp2;go_ret;exact⟨rfl,Lib.below_freeze (Below.drew (bRf B w)) (p:=⟨g,0,A⟩) hbg _⟩)
theorem Qk(p:Value)(hbk:w.heap[b]? = D (.cells #[p,E A 0 0,.int .i64 tb] 93 (0,0))):
  Calls Tryz.prog 28 #[C (D ⟨b,0,A⟩)] w fun e w'=>e = .returned (.string ⟨#[]⟩)/\Below w.heap.size w w':=by
 have hUS:=fun(W:World) (q:Option Addr)=>Lib.run_unsafeString_none (P:=Tryz.prog) W 115 3 9 q;have c1:w.drew.cell? ⟨b,1,A⟩=D (E A 0 0):=by
  have:w.drew.heap[b]? = D (.cells #[p,E A 0 0,.int .i64 tb] 93 (0,0)):=hbk;rw[Lib.cell_of_heap this];rfl
 have hSD:(Builtin.unsafeSliceData_ #[89] 115 #[E A 0 0]).run Tryz.prog w.drew = .ok (C A) w.drew:=rfl;have mixed:Tryz.prog.follows Departure.mixedOrders=true:=(by kernel_rfl);go_enter Tryz.func28,Tryz.ntmps28;go_wp2
 go_region_o
 all_goals (go_wp2;go_ret;exact⟨rfl,Below.drew (bRf _ w)⟩)
end Go.Proofs.YtlbbbapiklendaaGreatDoor
