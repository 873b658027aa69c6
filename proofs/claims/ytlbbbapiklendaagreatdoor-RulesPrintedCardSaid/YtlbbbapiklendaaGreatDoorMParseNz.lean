/-
  The parser's errors have a number;the lexer's too:in plain words. (And what it stands on.)
-/
import Derived.Deep.WholeRow
import Derived.Lib.ConvBytes
import Derived.Test.YtlbbbapiklendaaGreatDoorMOwnLow
namespace Go.Proofs.YtlbbbapiklendaaGreatDoor
open Go.Value renaming string->D,slice->C,pointer->E
open Go.Obj renaming cells->G
open Option renaming some->B,none->A
open Go Go.RowKit
open List renaming getElem?_eq_getElem->lgE,length_cons->lnC
open Nat renaming le_refl->nlr
open Go.Lib renaming hid->Lq7
open And renaming intro->aIn
set_option maxRecDepth 100000
set_option maxHeartbeats 16000000
def Du:List ByteArray:=[⟨#[34]⟩,⟨#[92,34]⟩,⟨#[92]⟩,⟨#[92,92]⟩,⟨#[10]⟩,⟨#[92,110]⟩]
def RB(w:World)(b:Nat)(x0 x1:Int)(x3 x4:Value):Prop:=w.heap[b]? = B (G #[.int .u32 x0,.int .i32 x1,.int .u32 0,x3,x4] 225 (0,0))
theorem M8(w e s):Below w.heap.size w (Lib.bytesWorld w e s):=by
 unfold Lib.bytesWorld World.freeze;rw[if_neg (by omega)];have h:=((Below.refl w.heap.size w).drew).alloc (nlr _) (.cells (Lib.bytesCells w e s) e);refine⟨h.os,h.tape,h.output,by simp,fun k hk=>?_⟩;show(Array.modify _ _ _)[k]? = _;rw[Array.getElem?_modify,if_neg (by show ¬w.heap.size=k;omega)];exact h.block k hk
theorem OwnS.keepB{w w' base v l}(h:OwnS w base v l)(hk:∀g,v.ownBlock=B g->w'.heap[g]? = w.heap[g]?):OwnS w' base v l:=by
 obtain⟨h1,h2|⟨g,cap,cur,rfl,h3,h4,h5⟩⟩:=h
 ·exact⟨h1,.inl h2⟩
 ·exact⟨h1,.inr ⟨g,cap,cur,rfl,h3,(hk g rfl).trans h4,h5⟩⟩
def Q0(d:List (Nat×Nat×Nat))(c:Nat):Value:=match d.find? (fun x=>x.1==c) with
 | some x=> C (B ⟨x.2.1,0,A⟩) 2 x.2.2
 | none=> C A 0 0
structure RepI(base:Nat)(W:World)(rb:Nat)(Z:Array Value)(d:List (Nat×Nat×Nat))(v:Value)(l:List ByteArray):Prop where
 blk:W.heap[rb]? = B (.cells Z 282 (0,0))
 size:Z.size=257
 each:∀c,c<256->Z[c]? = B (Q0 d c)
 last:Z[256]? = B v
 own:OwnS W base v l
 apart:v.ownBlock≠B rb/\base<=rb
theorem zeroRep:Tryz.zeroCells282=Array.replicate 257 (C A 0 0):=by kernel_rfl
theorem sizeRep:(Tryz.prog.info? 282).map (·.size)=B 257:=by kernel_rfl
def toRep:List ByteArray:=[⟨#[10]⟩,⟨#[92]⟩,⟨#[34]⟩]
def secOf(c:Nat):Int:=if c=10 then 110 else c
def Oz(w W:World)(n:Nat):Prop:=Below w.heap.size w W/\∃Z d v,RepI w.heap.size W (w.heap.size+1) Z d v (toRep.take n)/\d.map (·.1)=(([10,92,34]:List Nat).take n).reverse /\
 ∀x∈d,W.cell? ⟨x.2.1,0,A⟩=B (.int .u8 92)/\W.cell? ⟨x.2.1,1,A⟩=B (.int .u8 (secOf x.1))/\w.heap.size<=x.2.1/\x.2.1≠w.heap.size+1/\v.ownBlock≠B x.2.1
theorem repV_nil(c):Q0 [] c = C A 0 0:=rfl
theorem Wv(w):Oz w ((w.alloc (G #[D ⟨#[]⟩,D ⟨#[]⟩,D ⟨#[]⟩] 9)).alloc (.cells (Tryz.zeroCells282.toList.set 256 (C (B ⟨w.heap.size,0,A⟩) 0 3)).toArray 282)) 0:=by
 obtain⟨n1,n2,n3,n4⟩:=Cl w (G #[D ⟨#[]⟩,D ⟨#[]⟩,D ⟨#[]⟩] 9) (.cells (Tryz.zeroCells282.toList.set 256 (C (B ⟨w.heap.size,0,A⟩) 0 3)).toArray 282);refine⟨n3,_,[],C (B ⟨w.heap.size,0,A⟩) 0 3,⟨n2,by rw[zeroRep,List.size_toArray,List.length_set,Array.length_toList,Array.size_replicate],fun c hc=>?_,by rw[zeroRep,List.getElem?_toArray,List.getElem?_set_self (by rw[Array.length_toList,Array.size_replicate];decide)],⟨rfl,.inr ⟨w.heap.size,3,_,rfl,nlr _,n1,by decide,by decide,rfl,rfl⟩⟩,fun e=>?_,by omega⟩,rfl,fun x hx=>by cases hx⟩
 ·rw[zeroRep,repV_nil,List.getElem?_toArray,List.getElem?_set_ne (by omega),Array.toList_replicate,List.getElem?_replicate,if_pos (by omega)]
 ·have:w.heap.size=w.heap.size+1:=(by simp[Value.ownBlock] at e);omega
theorem Pd{d c}(h:∀x∈d,x.1≠c):Q0 d c = C A 0 0:=by
 unfold Q0;rw[List.find?_eq_none.2 (fun x hx=>by simpa using h x hx)]
theorem Q1(d o p cp):Q0 ((o,p,cp)::d) o = C (B ⟨p,0,A⟩) 2 cp:=by simp[Q0]
theorem O6(d){o c}(p cp)(h:o≠c):Q0 ((o,p,cp)::d) c=Q0 d c:=by
 unfold Q0;rw[List.find?_cons_of_neg (by simpa using h)]
theorem Q2{w wr W1 w1:World}{Z:Array Value}{d:List (Nat×Nat×Nat)}{v v':Value}{l l':List ByteArray}(hbw:Below w.heap.size w wr)(hI:RepI w.heap.size wr (w.heap.size+1) Z d v l)
  (hx:∀x∈d,wr.cell? ⟨x.2.1,0,A⟩=B (.int .u8 92)/\wr.cell? ⟨x.2.1,1,A⟩=B (.int .u8 (secOf x.1))/\w.heap.size<=x.2.1/\x.2.1≠w.heap.size+1/\v.ownBlock≠B x.2.1)
  (hb1:Below wr.heap.size wr W1) (hown:OwnS w1 w.heap.size v' l') (hg:W1.grownBy w1 v.ownBlock) (hat:∀g,v'.ownBlock=B g->v.ownBlock=B g\/W1.heap.size<=g) (o cp:Nat) (ho:o<256) (c:UInt8) (hc:secOf o=c.toNat):
  let W:=(Lib.bytesWorld (w1.setCell ⟨w.heap.size+1,256,A⟩ v') 5 ⟨#[92,c]⟩).setCell ⟨w.heap.size+1,o,A⟩ (C (B ⟨w1.heap.size,0,A⟩) 2 cp)
  Below w.heap.size w W/\∃Z',RepI w.heap.size W (w.heap.size+1) Z' ((o,w1.heap.size,cp)::d) v' l' /\
   ∀x∈(o,w1.heap.size,cp)::d,W.cell? ⟨x.2.1,0,A⟩=B (.int .u8 92)/\W.cell? ⟨x.2.1,1,A⟩=B (.int .u8 (secOf x.1))/\w.heap.size<=x.2.1/\x.2.1≠w.heap.size+1/\v'.ownBlock≠B x.2.1:=by
 intro W;have hrb:w.heap.size+1<wr.heap.size:=(Array.getElem?_eq_some_iff.1 hI.blk).1;have hs1:=hb1.size;have hs2:=hg.size;have bA:=hbw.size;have hvb:∀g,v.ownBlock=B g->w.heap.size<=g:=fun g e=>(hI.own.block e).1;have aQ:Below w.heap.size w w1:=(hbw.trans (hb1.mono bA)).trans (Cz hg hvb (by omega));have bC:w1.heap[w.heap.size+1]? = B (.cells Z 282 (0,0)):=(hg.block _ (by omega) (fun e=>hI.apart.1 e.symm)).trans ((hb1.block _ hrb).trans hI.blk);have hv'1:v'.ownBlock≠B (w.heap.size+1):=fun e=>by
  rcases hat _ e with h|h
  ·exact hI.apart.1 h
  ·omega
 have hv'2:∀g,v'.ownBlock=B g->g<w1.heap.size:=fun g e=>(hown.block e).2;have bB:(w1.setCell ⟨w.heap.size+1,256,A⟩ v').heap.size=w1.heap.size:=(by simp);have bM:∀k,k<w1.heap.size->k≠w.heap.size+1->W.heap[k]? = w1.heap[k]?:=fun k hk bN=>by
  show((Lib.bytesWorld _ _ _).setCell _ _).heap[k]? = _;rw[Ad bN,Lib.bytesWorld_at_old _ _ _ _ (by rw[bB];exact hk),Ad bN]
 have hWsz:W.heap.size=w1.heap.size+1:=by
  show((Lib.bytesWorld _ _ _).setCell _ _).heap.size=_;have hz:=Lib.bytesWorld_size (w1.setCell ⟨w.heap.size+1,256,A⟩ v') 5 ⟨#[92,c]⟩;rw[bB] at hz;rw[<-hz];simp
 have aV:Below w.heap.size w (w1.setCell ⟨w.heap.size+1,256,A⟩ v'):=aQ.setCell (p:=⟨w.heap.size+1,256,A⟩) (by show _<=w.heap.size+1;omega) _;have bD:Below w.heap.size w (Lib.bytesWorld (w1.setCell ⟨w.heap.size+1,256,A⟩ v') 5 ⟨#[92,c]⟩):=aV.trans ((M8 _ _ _).mono aV.size);refine⟨bD.setCell (p:=⟨w.heap.size+1,o,A⟩) (by show _<=w.heap.size+1;omega) _,(Z.setIfInBounds 256 v').setIfInBounds o (C (B ⟨w1.heap.size,0,A⟩) 2 cp),⟨?_,?_,?_,?_,?_,hv'1,hI.apart.2⟩,?_⟩
 ·show((Lib.bytesWorld _ _ _).setCell _ _).heap[_]? = _;refine Af ?_ o _;rw[Lib.bytesWorld_at_old _ _ _ _ (by rw[bB];omega)];exact Af bC 256 v'
 ·rw[Array.size_setIfInBounds,Array.size_setIfInBounds];exact hI.size
 ·intro k hk;by_cases hko:o=k
  ·subst hko;rw[Array.getElem?_setIfInBounds_self_of_lt (by rw[Array.size_setIfInBounds,hI.size];omega),Q1]
  ·rw[Array.getElem?_setIfInBounds_ne (fun e=>hko e),Array.getElem?_setIfInBounds_ne (by omega),O6 _ _ _ hko];exact hI.each k hk
 ·rw[Array.getElem?_setIfInBounds_ne (by omega),Array.getElem?_setIfInBounds_self_of_lt (by rw[hI.size];omega)]
 ·exact hown.keepB (fun g e=>bM g (hv'2 g e) (fun h=>hv'1 (h▸e)))
 ·intro x hx';rcases List.mem_cons.1 hx' with rfl|hx'
  ·have aR:∀j,j<2->W.cell? ⟨w1.heap.size,j,A⟩=B (.int .u8 ((⟨#[92,c]⟩:ByteArray).data.toList.getD j 0).toNat):=fun j hj=>by
    have h1:=Lib.bytesWorld_cell (w1.setCell ⟨w.heap.size+1,256,A⟩ v') 5 ⟨#[92,c]⟩ j hj;rw[bB] at h1;refine(World.cell?_of_block (a:=⟨w1.heap.size,j,A⟩) ?_).trans h1;show((Lib.bytesWorld _ _ _).setCell _ _).heap[w1.heap.size]? = _;exact Ad (by omega) o _
   refine⟨aR 0 (by decide),?_,by show w.heap.size<=w1.heap.size;omega,by show w1.heap.size≠_;omega,fun e=>by have:=hv'2 _ e;exact absurd this (Nat.lt_irrefl _)⟩;rw[hc];exact aR 1 (by decide)
  ·obtain⟨a1,a2,a3,a4,a5⟩:=hx x hx';have hxl:=Ax a1;have hk:∀j,W.cell? ⟨x.2.1,j,A⟩=wr.cell? ⟨x.2.1,j,A⟩:=fun j=>World.cell?_of_block ((bM x.2.1 (by omega) a4).trans ((hg.block _ (by omega) (fun e=>a5 e.symm)).trans (hb1.block _ hxl)));refine⟨(hk 0).trans a1,(hk 1).trans a2,a3,a4,fun e=>?_⟩;rcases hat _ e with h|h
   ·exact a5 h
   ·omega
def F3(base:Nat)(w:World)(rb:Nat):Prop:=∃d v,(∀c,c<256->w.cell? ⟨rb,c,A⟩=B (Q0 d c))/\w.cell? ⟨rb,256,A⟩=B v/\OwnS w base v toRep/\d.map (·.1)=[34,92,10] /\
 (∀x∈d,w.cell? ⟨x.2.1,0,A⟩=B (.int .u8 92)/\w.cell? ⟨x.2.1,1,A⟩=B (.int .u8 (secOf x.1))/\base<=x.2.1)/\base<=rb
theorem F3.keep{base w w' rb}(h:F3 base w rb)(hk:∀k,base<=k->k<w.heap.size->w'.heap[k]? = w.heap[k]?):F3 base w' rb:=by
 obtain⟨d,v,h1,h2,h3,h4,h5,h6⟩:=h;have hc:∀{k i:Nat} {u:Value},base<=k->w.cell? ⟨k,i,A⟩=B u->w'.cell? ⟨k,i,A⟩=B u:=fun {k i u} hb he=>(World.cell?_of_block (a:=⟨k,i,A⟩) (hk k hb (Ax he))).trans he;exact⟨d,v,fun c hc'=>hc h6 (h1 c hc'),hc h6 h2,h3.keepB (fun g e=>hk g (h3.block e).1 (h3.block e).2),h4,fun x hx=>⟨hc (h5 x hx).2.2 (h5 x hx).1,hc (h5 x hx).2.2 (h5 x hx).2.1,(h5 x hx).2.2⟩,h6⟩
def Mh(c:Nat):Bool:=c==34||c==92||c==10
theorem F3.esc{base w rb c}(h:F3 base w rb)(hc:c<256)(he:Mh c=true):∃p cp,w.cell? ⟨rb,c,A⟩=B (C (B ⟨p,0,A⟩) 2 cp)/\w.cell? ⟨p,0,A⟩=B (.int .u8 92)/\w.cell? ⟨p,1,A⟩=B (.int .u8 (secOf c)):=by
 obtain⟨d,v,h1,h2,h3,h4,h5,-⟩:=h;have hm:c∈d.map (·.1):=by
  rw[h4];simp[Mh] at he;rcases he with (rfl|rfl)|rfl<;>simp
 obtain⟨x,hx,hxc⟩:=List.mem_map.1 hm;have hf:∃y,d.find? (fun x=>x.1==c)=B y:=by
  cases hf:d.find? (fun x=>x.1==c) with
  | none=>exact absurd (by simpa using hxc) (List.find?_eq_none.1 hf x hx)
  | some y=>exact⟨y,rfl⟩
 obtain⟨y,hf⟩:=hf;have hy:=List.mem_of_find?_eq_some hf;have hyc:y.1=c:=(by simpa using List.find?_some hf);refine⟨y.2.1,y.2.2,?_,(h5 y hy).1,hyc▸(h5 y hy).2.1⟩;rw[h1 c hc];unfold Q0;rw[hf]
theorem F3.plain{base w rb c}(h:F3 base w rb)(hc:c<256)(he:Mh c=false):w.cell? ⟨rb,c,A⟩=B (C A 0 0):=by
 obtain⟨d,v,h1,h2,h3,h4,h5,-⟩:=h;rw[h1 c hc];have:∀x∈d,x.1≠c:=fun x hx e=>by
  have hm:x.1∈d.map (·.1):=List.mem_map_of_mem hx;rw[h4] at hm;simp at hm;simp[Mh] at he;omega
 rw[Pd this]
theorem F3.row{base w rb}(h:F3 base w rb):∃a cp,w.cell? ⟨rb,256,A⟩=B (C a 3 cp)/\Dx w a toRep:=by
 obtain⟨d,v,h1,h2,h3,h4,h5,-⟩:=h;have hs:=h3.strsAt;rw[show toRep.length=3 from rfl] at hs;obtain⟨a,cp,rfl,aG,-⟩:=hs;exact⟨a,cp,h2,aG⟩
def PBuild(w:World)(e:Ending)(w':World):Prop:=∃rb,e = .returned (.iface 283 (E (B ⟨rb,0,A⟩)))/\Below w.heap.size w w'/\F3 w.heap.size w' rb
theorem J1(W:World)(x:UInt8):(convert 89 9 (C (B ⟨W.heap.size,0,A⟩) 1 1)).run Tryz.prog (W.alloc (G #[.int .u8 x.toNat] 5)) = .ok (D ⟨#[x]⟩) (W.alloc (G #[.int .u8 x.toNat] 5)):=
 run_convert_bytes_back _ _ _ 5 ⟨W.heap.size,0,A⟩ 1 [x] Tryz.underlying89 Tryz.underlying5 Tryz.underlying9 (fun j hj=>by
  obtain rfl:j=0:=(by simp at hj;exact hj);go_simp)
theorem Ab8(b x1 ob oc w)(h:RB w b 0 x1 .nilIface (C (B ⟨ob,0,A⟩) 6 oc))(hs:Dx w (B ⟨ob,0,A⟩) Du):
  Calls Tryz.prog 206 #[E (B ⟨b,0,A⟩)] w (PBuild w):=by
 obtain⟨-,g0,g1,g2,g3,g4,-⟩:=Aa h;obtain⟨_,_,e0,s0⟩:=hs.at (k:=0) (by decide);cases e0;obtain⟨_,_,e0,s1⟩:=hs.at (k:=1) (by decide);cases e0;obtain⟨_,_,e0,s2⟩:=hs.at (k:=2) (by decide);cases e0;obtain⟨_,_,e0,s3⟩:=hs.at (k:=3) (by decide);cases e0;obtain⟨_,_,e0,s4⟩:=hs.at (k:=4) (by decide);cases e0;obtain⟨_,_,e0,s5⟩:=hs.at (k:=5) (by decide);cases e0;simp only[Du,List.getElem_cons_succ,List.getElem_cons_zero,Nat.zero_add] at s0 s1 s2 s3 s4 s5;clear hs h;have hmk:∀W,(Instr.makeSlice 51 (.int .i64 0) (.int .i64 3)).run Tryz.prog W = .ok (C (B ⟨W.heap.size,0,A⟩) 0 3) (W.alloc (G #[D ⟨#[]⟩,D ⟨#[]⟩,D ⟨#[]⟩] 9)):=fun W=>(by kernel_rfl);have hnil:∀W,(binOp .eql 89 (C A 0 0) (C A 0 0)).run Tryz.prog W = .ok (.bool true) W:=fun W=>(by kernel_rfl);have hsb:=fun(W:World) (s:ByteArray)=>Lib.run_convert_string_bytes (P:=Tryz.prog) W 9 89 5 s Tryz.underlying9 Tryz.underlying89 Tryz.underlying5;have bE:=fun(W:World)=>J1 W 10;have bG:=fun(W:World)=>J1 W 92;have bH:=fun(W:World)=>J1 W 34;simp only[show((10:UInt8).toNat:Int)=10 from rfl,show((92:UInt8).toNat:Int)=92 from rfl,show((34:UInt8).toNat:Int)=34 from rfl] at bE bG bH;obtain⟨i0,hi,bI,bJ,bL⟩:=info_parts infoStr;have aG:(storeCells ⟨w.heap.size+1,0,A⟩ (Tryz.zeroCells282.toList.set 256 (C (B ⟨w.heap.size,0,A⟩) 0 3))).run Tryz.prog ((w.alloc (G #[D ⟨#[]⟩,D ⟨#[]⟩,D ⟨#[]⟩] 9)).alloc (.cells Tryz.zeroCells282 282)) = .ok () ((w.alloc (G #[D ⟨#[]⟩,D ⟨#[]⟩,D ⟨#[]⟩] 9)).alloc (.cells (Tryz.zeroCells282.toList.set 256 (C (B ⟨w.heap.size,0,A⟩) 0 3)).toArray 282)):=by
  have hsz:(w.alloc (G #[D ⟨#[]⟩,D ⟨#[]⟩,D ⟨#[]⟩] 9)).heap.size=w.heap.size+1:=(by simp);have:=run_storeCells_new (P:=Tryz.prog) (w.alloc (G #[D ⟨#[]⟩,D ⟨#[]⟩,D ⟨#[]⟩] 9)) 282 Tryz.zeroCells282 (Tryz.zeroCells282.toList.set 256 (C (B ⟨w.heap.size,0,A⟩) 0 3)).toArray (by rw[sizeRep,zeroRep];simp) (by rw[zeroRep];simp) (by
   rw[zeroRep,Array.all_eq_true'];intro x hx;rw[List.mem_toArray] at hx;rcases List.mem_or_eq_of_mem_set hx with hx|rfl
   ·rw[Array.toList_replicate] at hx;rw[(List.mem_replicate.1 hx).2];rfl
   ·rfl)
  rw[hsz] at this;exact this
 go_enter Tryz.func206,Tryz.ntmps206;go_wp2_with fail
 go_loop [4,5] (fun v i=>(v = .bool true/\i = .int .i64 0)\/(v = .bool false/\i = .int .i64 2)\/(v = .bool false/\i = .int .i64 4)\/(v = .bool false/\i = .int .i64 6)) (fun _ i=>6-(intOf i).toNat)
 case atStart=>exact .inl ⟨rfl,rfl⟩
 case round=>
  rcases hrel with⟨rfl,rfl⟩|⟨rfl,rfl⟩|⟨rfl,rfl⟩|⟨rfl,rfl⟩
  ·go_wp2_with fail;go_round
   case rel=>exact .inr (.inl ⟨rfl,by go_num⟩)
   case measure=>simp[intOf]
  ·go_wp2_with fail;go_round
   case rel=>exact .inr (.inr (.inl ⟨rfl,by go_num⟩))
   case measure=>simp[intOf]
  ·go_wp2_with fail;go_round
   case rel=>exact .inr (.inr (.inr ⟨rfl,by go_num⟩))
   case measure=>simp[intOf]
  ·go_wp2_with fail;have H0:=Lq7 (Wv w);generalize World.alloc _ _=W0 at H0 |-
   go_loopw [12] (fun i wr=>(i = .int .i64 4/\Hid (Oz w wr 0))\/(i = .int .i64 2/\Hid (Oz w wr 1))\/(i = .int .i64 0/\Hid (Oz w wr 2))\/(i = .int .i64 (-2)/\Hid (Oz w wr 3))) (fun i _=>(intOf i+2).toNat)
   case atStart=>exact .inl ⟨rfl,H0⟩
   case round=>
    rcases hrel with⟨rfl,aG⟩|⟨rfl,aG⟩|⟨rfl,aG⟩|⟨rfl,aG⟩
    ·obtain⟨hbw,Z,d,v,hI,hd,hx⟩:=aG.out;have ta:=(hbw.cell (p:=⟨ob,4,A⟩) (Ax s4)).trans s4;have tb:=(hbw.cell (p:=⟨ob,5,A⟩) (Ax s5)).trans s5;have aD:∀x∈d,x.1≠10:=fun x hm=>by
      have:x.1∈d.map (·.1):=List.mem_map_of_mem hm;rw[hd] at this;intro e;rw[e] at this;revert this
      decide
     obtain⟨aH,aJ,aM⟩:=Ao hI.blk;have z1:=(aJ 10).trans (hI.each 10 (by decide));rw[Pd aD] at z1;have aE:=(aJ 256).trans hI.last;have f1:=aM 10;have aF:=aM 256;have e1:((⟨#[10]⟩:ByteArray)[0]'(by decide)).toNat=10:=rfl;have bA:=hbw.size;have aN:Below wr.heap.size wr ((wr.alloc (G #[.int .u8 10] 5)).alloc (G #[D ⟨#[10]⟩] 9)):=((Below.refl _ wr).alloc (nlr _) _).alloc (by simp) _;have aB:=lit_one (wr.alloc (G #[.int .u8 10] 5)) (D ⟨#[10]⟩) 9;rw[show(wr.alloc (G #[.int .u8 10] 5)).heap.size=wr.heap.size+1 by simp] at aB;have Hn:=Lq7 (aIn aB (hI.own.below aN));have aA:=Lq7 (aIn hbw (aIn hI (aIn hx (aIn hd aN))));clear hx hd hI aJ aG hbw aD aB
     go_wp2_with (at_builtin;refine C1 rfl _ _ 51 rfl w.heap.size 9 i0 (D ByteArray.empty) 1 16 Tryz.underlying51 hi bI bJ bL rfl (by decide) v 0 ((toRep.take 0).map Value.string) rfl Hn.out.2 ⟨wr.heap.size+1,0,A⟩ 1 1 [D ⟨#[10]⟩] rfl rfl Hn.out.1 ?_ ?_ ?_ ?_ ?_)
     ·simp[Value.oneCell']
     ·unfold maxLen;decide
     ·decide
     ·simp;omega
     intro v' w1 hown' hg hat;have hown:OwnS w1 w.heap.size v' (toRep.take 1):=hown';have aU:=hown.strsAt;rw[show(toRep.take 1).length=1 from rfl] at aU;obtain⟨va,vc,aW,-,-⟩:=aU;subst aW;have aY:=((World.cell?_of_block (a:=⟨w.heap.size+1,256,A⟩) ((hg.block _ (by have:=aA.out.2.2.2.2.size;show w.heap.size+1<_;omega) (fun e=>aA.out.2.1.apart.1 e.symm)).trans (aA.out.2.2.2.2.block _ aH)))).trans aE;have y1:=((World.cell?_of_block (a:=⟨w.heap.size+1,10,A⟩) ((hg.block _ (by have:=aA.out.2.2.2.2.size;show w.heap.size+1<_;omega) (fun e=>aA.out.2.1.apart.1 e.symm)).trans (aA.out.2.2.2.2.block _ aH)))).trans z1;have aZ:=((World.frozen?_of_block (a:=⟨w.heap.size+1,256,A⟩) ((hg.block _ (by have:=aA.out.2.2.2.2.size;show w.heap.size+1<_;omega) (fun e=>aA.out.2.1.apart.1 e.symm)).trans (aA.out.2.2.2.2.block _ aH)))).trans aF;have g1:=((World.frozen?_of_block (a:=⟨w.heap.size+1,10,A⟩) ((hg.block _ (by have:=aA.out.2.2.2.2.size;show w.heap.size+1<_;omega) (fun e=>aA.out.2.1.apart.1 e.symm)).trans (aA.out.2.2.2.2.block _ aH)))).trans f1;have aC:=Lq7 (fun cp=>Q2 aA.out.1 aA.out.2.1 aA.out.2.2.1 aA.out.2.2.2.2 hown hg (fun g e=>by have:=hat g e;simpa using this) 10 cp (by decide) 110 rfl);have Hd:=Lq7 aA.out.2.2.2.1;clear hown hg hat ta tb z1 aE f1 aF Hn aA aN aM;have k1:(Lib.bytesWorld (w1.setCell ⟨w.heap.size+1,256,A⟩ (C va 1 vc)) 5 ⟨#[92,110]⟩).cell? ⟨w.heap.size+1,10,A⟩=B (C A 0 0):=by
      rw[Lib.bytesWorld_old _ _ _ _ (by have:=Ax y1;simpa using this),World.cell?_setCell_other _ _ _ _ (by simp)];exact y1
     have k2:(Lib.bytesWorld (w1.setCell ⟨w.heap.size+1,256,A⟩ (C va 1 vc)) 5 ⟨#[92,110]⟩).frozen? ⟨w.heap.size+1,10,A⟩=false:=by
      rw[World.frozen?_of_block (Lib.bytesWorld_at_old _ _ _ _ (by have:=Ax y1;simpa using this)),World.frozen?_setCell];exact g1
     have HN:Hid (Oz w ((Lib.bytesWorld (w1.setCell ⟨w.heap.size+1,256,A⟩ (C va 1 vc)) 5 ⟨#[92,110]⟩).setCell ⟨w.heap.size+1,10,A⟩ (C (B ⟨w1.heap.size,0,A⟩) 2 (grownCap (w1.setCell ⟨w.heap.size+1,256,A⟩ (C va 1 vc)) 2 0 5))) 1):=Lq7 (by
      obtain⟨h1,Z',h2,h3⟩:=aC.out (grownCap (w1.setCell ⟨w.heap.size+1,256,A⟩ (C va 1 vc)) 2 0 5);exact⟨h1,Z',_,_,h2,by rw[List.map_cons,Hd.out];rfl,h3⟩)
     clear aC Hd y1 g1;go_wp2_with fail;go_roundw
     case rel=>exact .inr (.inl ⟨by go_num,HN⟩)
     case measure=>simp[intOf]
    ·obtain⟨hbw,Z,d,v,hI,hd,hx⟩:=aG.out;have ta:=(hbw.cell (p:=⟨ob,2,A⟩) (Ax s2)).trans s2;have tb:=(hbw.cell (p:=⟨ob,3,A⟩) (Ax s3)).trans s3;have aD:∀x∈d,x.1≠92:=fun x hm=>by
      have:x.1∈d.map (·.1):=List.mem_map_of_mem hm;rw[hd] at this;intro e;rw[e] at this;revert this
      decide
     obtain⟨aH,aJ,aM⟩:=Ao hI.blk;have z1:=(aJ 92).trans (hI.each 92 (by decide));rw[Pd aD] at z1;have aE:=(aJ 256).trans hI.last;have f1:=aM 92;have aF:=aM 256;have e1:((⟨#[92]⟩:ByteArray)[0]'(by decide)).toNat=92:=rfl;have bA:=hbw.size;have aN:Below wr.heap.size wr ((wr.alloc (G #[.int .u8 92] 5)).alloc (G #[D ⟨#[92]⟩] 9)):=((Below.refl _ wr).alloc (nlr _) _).alloc (by simp) _;have aB:=lit_one (wr.alloc (G #[.int .u8 92] 5)) (D ⟨#[92]⟩) 9;rw[show(wr.alloc (G #[.int .u8 92] 5)).heap.size=wr.heap.size+1 by simp] at aB;have Hn:=Lq7 (aIn aB (hI.own.below aN));have aA:=Lq7 (aIn hbw (aIn hI (aIn hx (aIn hd aN))));clear hx hd hI aJ aG hbw aD aB
     go_wp2_with (at_builtin;refine C1 rfl _ _ 51 rfl w.heap.size 9 i0 (D ByteArray.empty) 1 16 Tryz.underlying51 hi bI bJ bL rfl (by decide) v 1 ((toRep.take 1).map Value.string) rfl Hn.out.2 ⟨wr.heap.size+1,0,A⟩ 1 1 [D ⟨#[92]⟩] rfl rfl Hn.out.1 ?_ ?_ ?_ ?_ ?_)
     ·simp[Value.oneCell']
     ·unfold maxLen;decide
     ·decide
     ·simp;omega
     intro v' w1 hown' hg hat;have hown:OwnS w1 w.heap.size v' (toRep.take 2):=hown';have aU:=hown.strsAt;rw[show(toRep.take 2).length=2 from rfl] at aU;obtain⟨va,vc,aW,-,-⟩:=aU;subst aW;have aY:=((World.cell?_of_block (a:=⟨w.heap.size+1,256,A⟩) ((hg.block _ (by have:=aA.out.2.2.2.2.size;show w.heap.size+1<_;omega) (fun e=>aA.out.2.1.apart.1 e.symm)).trans (aA.out.2.2.2.2.block _ aH)))).trans aE;have y1:=((World.cell?_of_block (a:=⟨w.heap.size+1,92,A⟩) ((hg.block _ (by have:=aA.out.2.2.2.2.size;show w.heap.size+1<_;omega) (fun e=>aA.out.2.1.apart.1 e.symm)).trans (aA.out.2.2.2.2.block _ aH)))).trans z1;have aZ:=((World.frozen?_of_block (a:=⟨w.heap.size+1,256,A⟩) ((hg.block _ (by have:=aA.out.2.2.2.2.size;show w.heap.size+1<_;omega) (fun e=>aA.out.2.1.apart.1 e.symm)).trans (aA.out.2.2.2.2.block _ aH)))).trans aF;have g1:=((World.frozen?_of_block (a:=⟨w.heap.size+1,92,A⟩) ((hg.block _ (by have:=aA.out.2.2.2.2.size;show w.heap.size+1<_;omega) (fun e=>aA.out.2.1.apart.1 e.symm)).trans (aA.out.2.2.2.2.block _ aH)))).trans f1;have aC:=Lq7 (fun cp=>Q2 aA.out.1 aA.out.2.1 aA.out.2.2.1 aA.out.2.2.2.2 hown hg (fun g e=>by have:=hat g e;simpa using this) 92 cp (by decide) 92 rfl);have Hd:=Lq7 aA.out.2.2.2.1;clear hown hg hat ta tb z1 aE f1 aF Hn aA aN aM;have k1:(Lib.bytesWorld (w1.setCell ⟨w.heap.size+1,256,A⟩ (C va 2 vc)) 5 ⟨#[92,92]⟩).cell? ⟨w.heap.size+1,92,A⟩=B (C A 0 0):=by
      rw[Lib.bytesWorld_old _ _ _ _ (by have:=Ax y1;simpa using this),World.cell?_setCell_other _ _ _ _ (by simp)];exact y1
     have k2:(Lib.bytesWorld (w1.setCell ⟨w.heap.size+1,256,A⟩ (C va 2 vc)) 5 ⟨#[92,92]⟩).frozen? ⟨w.heap.size+1,92,A⟩=false:=by
      rw[World.frozen?_of_block (Lib.bytesWorld_at_old _ _ _ _ (by have:=Ax y1;simpa using this)),World.frozen?_setCell];exact g1
     have HN:Hid (Oz w ((Lib.bytesWorld (w1.setCell ⟨w.heap.size+1,256,A⟩ (C va 2 vc)) 5 ⟨#[92,92]⟩).setCell ⟨w.heap.size+1,92,A⟩ (C (B ⟨w1.heap.size,0,A⟩) 2 (grownCap (w1.setCell ⟨w.heap.size+1,256,A⟩ (C va 2 vc)) 2 0 5))) 2):=Lq7 (by
      obtain⟨h1,Z',h2,h3⟩:=aC.out (grownCap (w1.setCell ⟨w.heap.size+1,256,A⟩ (C va 2 vc)) 2 0 5);exact⟨h1,Z',_,_,h2,by rw[List.map_cons,Hd.out];rfl,h3⟩)
     clear aC Hd y1 g1;go_wp2_with fail;go_roundw
     case rel=>exact .inr (.inr (.inl ⟨by go_num,HN⟩))
     case measure=>simp[intOf]
    ·obtain⟨hbw,Z,d,v,hI,hd,hx⟩:=aG.out;have ta:=(hbw.cell (p:=⟨ob,0,A⟩) (Ax s0)).trans s0;have tb:=(hbw.cell (p:=⟨ob,1,A⟩) (Ax s1)).trans s1;have aD:∀x∈d,x.1≠34:=fun x hm=>by
      have:x.1∈d.map (·.1):=List.mem_map_of_mem hm;rw[hd] at this;intro e;rw[e] at this;revert this
      decide
     obtain⟨aH,aJ,aM⟩:=Ao hI.blk;have z1:=(aJ 34).trans (hI.each 34 (by decide));rw[Pd aD] at z1;have aE:=(aJ 256).trans hI.last;have f1:=aM 34;have aF:=aM 256;have e1:((⟨#[34]⟩:ByteArray)[0]'(by decide)).toNat=34:=rfl;have bA:=hbw.size;have aN:Below wr.heap.size wr ((wr.alloc (G #[.int .u8 34] 5)).alloc (G #[D ⟨#[34]⟩] 9)):=((Below.refl _ wr).alloc (nlr _) _).alloc (by simp) _;have aB:=lit_one (wr.alloc (G #[.int .u8 34] 5)) (D ⟨#[34]⟩) 9;rw[show(wr.alloc (G #[.int .u8 34] 5)).heap.size=wr.heap.size+1 by simp] at aB;have Hn:=Lq7 (aIn aB (hI.own.below aN));have aA:=Lq7 (aIn hbw (aIn hI (aIn hx (aIn hd aN))));clear hx hd hI aJ aG hbw aD aB
     go_wp2_with (at_builtin;refine C1 rfl _ _ 51 rfl w.heap.size 9 i0 (D ByteArray.empty) 1 16 Tryz.underlying51 hi bI bJ bL rfl (by decide) v 2 ((toRep.take 2).map Value.string) rfl Hn.out.2 ⟨wr.heap.size+1,0,A⟩ 1 1 [D ⟨#[34]⟩] rfl rfl Hn.out.1 ?_ ?_ ?_ ?_ ?_)
     ·simp[Value.oneCell']
     ·unfold maxLen;decide
     ·decide
     ·simp;omega
     intro v' w1 hown' hg hat;have hown:OwnS w1 w.heap.size v' (toRep.take 3):=hown';have aU:=hown.strsAt;rw[show(toRep.take 3).length=3 from rfl] at aU;obtain⟨va,vc,aW,-,-⟩:=aU;subst aW;have aY:=((World.cell?_of_block (a:=⟨w.heap.size+1,256,A⟩) ((hg.block _ (by have:=aA.out.2.2.2.2.size;show w.heap.size+1<_;omega) (fun e=>aA.out.2.1.apart.1 e.symm)).trans (aA.out.2.2.2.2.block _ aH)))).trans aE;have y1:=((World.cell?_of_block (a:=⟨w.heap.size+1,34,A⟩) ((hg.block _ (by have:=aA.out.2.2.2.2.size;show w.heap.size+1<_;omega) (fun e=>aA.out.2.1.apart.1 e.symm)).trans (aA.out.2.2.2.2.block _ aH)))).trans z1;have aZ:=((World.frozen?_of_block (a:=⟨w.heap.size+1,256,A⟩) ((hg.block _ (by have:=aA.out.2.2.2.2.size;show w.heap.size+1<_;omega) (fun e=>aA.out.2.1.apart.1 e.symm)).trans (aA.out.2.2.2.2.block _ aH)))).trans aF;have g1:=((World.frozen?_of_block (a:=⟨w.heap.size+1,34,A⟩) ((hg.block _ (by have:=aA.out.2.2.2.2.size;show w.heap.size+1<_;omega) (fun e=>aA.out.2.1.apart.1 e.symm)).trans (aA.out.2.2.2.2.block _ aH)))).trans f1;have aC:=Lq7 (fun cp=>Q2 aA.out.1 aA.out.2.1 aA.out.2.2.1 aA.out.2.2.2.2 hown hg (fun g e=>by have:=hat g e;simpa using this) 34 cp (by decide) 34 rfl);have Hd:=Lq7 aA.out.2.2.2.1;clear hown hg hat ta tb z1 aE f1 aF Hn aA aN aM;have k1:(Lib.bytesWorld (w1.setCell ⟨w.heap.size+1,256,A⟩ (C va 3 vc)) 5 ⟨#[92,34]⟩).cell? ⟨w.heap.size+1,34,A⟩=B (C A 0 0):=by
      rw[Lib.bytesWorld_old _ _ _ _ (by have:=Ax y1;simpa using this),World.cell?_setCell_other _ _ _ _ (by simp)];exact y1
     have k2:(Lib.bytesWorld (w1.setCell ⟨w.heap.size+1,256,A⟩ (C va 3 vc)) 5 ⟨#[92,34]⟩).frozen? ⟨w.heap.size+1,34,A⟩=false:=by
      rw[World.frozen?_of_block (Lib.bytesWorld_at_old _ _ _ _ (by have:=Ax y1;simpa using this)),World.frozen?_setCell];exact g1
     have HN:Hid (Oz w ((Lib.bytesWorld (w1.setCell ⟨w.heap.size+1,256,A⟩ (C va 3 vc)) 5 ⟨#[92,34]⟩).setCell ⟨w.heap.size+1,34,A⟩ (C (B ⟨w1.heap.size,0,A⟩) 2 (grownCap (w1.setCell ⟨w.heap.size+1,256,A⟩ (C va 3 vc)) 2 0 5))) 3):=Lq7 (by
      obtain⟨h1,Z',h2,h3⟩:=aC.out (grownCap (w1.setCell ⟨w.heap.size+1,256,A⟩ (C va 3 vc)) 2 0 5);exact⟨h1,Z',_,_,h2,by rw[List.map_cons,Hd.out];rfl,h3⟩)
     clear aC Hd y1 g1;go_wp2_with fail;go_roundw
     case rel=>exact .inr (.inr (.inr ⟨by go_num,HN⟩))
     case measure=>simp[intOf]
    ·have HF:=Lq7 aG.out;clear aG;go_wp2_with fail;refine bodyPost_ret (v:=.iface 283 (E (B ⟨w.heap.size+1,0,A⟩))) (by simp[results,Tryz.results206,go_sem]) rfl ?_;obtain⟨h1,Z,d,v,h2,h3,h4⟩:=HF.out;obtain⟨-,aJ,-⟩:=Ao h2.blk;exact⟨_,rfl,h1,d,v,fun c hc=>(aJ c).trans (h2.each c hc),(aJ 256).trans h2.last,h2.own,h3,fun x hx=>⟨(h4 x hx).1,(h4 x hx).2.1,(h4 x hx).2.2.1⟩,by omega⟩
theorem Ou(w):(callFunc 237 #[]).run Tryz.prog w = .ok (.value (.tuple #[])) w:=run_call_mark0 Tryz.func237 (by kernel_rfl) (by kernel_rfl) (by kernel_rfl) .disable (by kernel_rfl) w
theorem Qh(w):(callFunc 239 #[]).run Tryz.prog w = .ok (.value (.tuple #[])) w:=run_call_mark0 Tryz.func239 (by kernel_rfl) (by kernel_rfl) (by kernel_rfl) .enable (by kernel_rfl) w
theorem Vn(a w):(callFunc 240 #[E (B a)]).run Tryz.prog w = .ok (.value (.tuple #[])) w:=run_call_marked Tryz.func240 (by kernel_rfl) (by kernel_rfl) (by kernel_rfl) .acquire (by kernel_rfl) a w
theorem Vo(a w):(callFunc 242 #[E (B a)]).run Tryz.prog w = .ok (.value (.tuple #[])) w:=run_call_marked Tryz.func242 (by kernel_rfl) (by kernel_rfl) (by kernel_rfl) .releaseMerge (by kernel_rfl) a w
theorem Qi(a x u w)(hc:w.cell? a=B x)(hz:w.frozen? a=false):
  CallsD Tryz.prog 224 #[E (B a),.bool true] u w fun e u' w'=>u'=u/\(e = .returned (.tuple #[])/\w'=w.drew.setCell a (.int .u32 1)):=by
 have hc':w.drew.cell? a=B x:=(by go_simp);have hz':w.drew.frozen? a=false:=(by go_simp);have hst:=run_call_store (P:=Tryz.prog) Tryz.func233 (by kernel_rfl) (by kernel_rfl) (by kernel_rfl) (by kernel_rfl) (k:=.u32) (y:=1) hc' hz'
 go_enter_d Tryz.func224,Tryz.ntmps224
 go_wp2
 go_region_calls
 all_goals (go_end0;exact⟨rfl,rfl⟩)
theorem O4(a u w)(hc:w.cell? a=B (.int .i32 1))(hz:w.frozen? a=false):
  CallsD Tryz.prog 223 #[E (B a)] u w fun e u' w'=>u'=u/\(e = .returned (.tuple #[])/\w'=w.setCell a (.int .i32 0)):=by
 have hd:=Ou;have he:=Qh;have hr:=Vo;have hadd:=run_call_add (P:=Tryz.prog) Tryz.func243 (by kernel_rfl) (by kernel_rfl) (by kernel_rfl) .i32 (by kernel_rfl) (y:= -1) (s:=0) hc hz (by simp[go_sem];rfl);have hcv:=run_convert_to_unsafe (P:=Tryz.prog) (src:=305) (dst:=191) Tryz.underlying305 Tryz.underlying191 (by kernel_rfl) hc
 go_enter_d Tryz.func223,Tryz.ntmps223
 go_wp2
 go_end0
 go_wp2
 go_end0
 exact⟨rfl,rfl⟩
theorem Aa4(a w)(hc:w.cell? a=B (.int .i32 0))(hz:w.frozen? a=false):
  Calls Tryz.prog 222 #[E (B a)] w fun e w'=>e = .returned (.tuple #[])/\w'=w.setCell a (.int .i32 1):=by
 have hd:=Ou;have he:=Qh;have ha:=Vn;have hcas:=run_call_cas_hit (P:=Tryz.prog) Tryz.func238 (by kernel_rfl) (by kernel_rfl) (by kernel_rfl) .i32 (by kernel_rfl) (y:=1) hc hz;have hc':(w.setCell a (.int .i32 1)).cell? a=B (.int .i32 1):=World.cell?_setCell_same w a _ hc;have hcv:=run_convert_to_unsafe (P:=Tryz.prog) (src:=305) (dst:=191) Tryz.underlying305 Tryz.underlying191 (by kernel_rfl) hc';go_enter Tryz.func222,Tryz.ntmps222;go_wp2
 first|go_end0|(simp only[Exit.inBlock,Exit.then];refine bodyPost_ret (results_none rfl _ _ _) rfl ?_)|refine bodyPost_ret (results_none rfl _ _ _) rfl ?_
 go_wp2
 go_end0
 exact⟨rfl,rfl⟩
theorem Sa(a x w)(hc:w.cell? a=B (.int .u32 x)):
  Calls Tryz.prog 204 #[E (B a)] w fun e w'=>e = .returned (.bool (x != 0))/\w'=w:=by
 have hl:=run_call_load (P:=Tryz.prog) Tryz.func221 (by kernel_rfl) (by kernel_rfl) (by kernel_rfl) .u32 (by kernel_rfl) hc;go_enter Tryz.func204,Tryz.ntmps204;go_wp2;go_ret;exact⟨rfl,rfl⟩
def PBOnce(b n:Nat)(x1:Int)(w:World)(e:Ending)(w':World):Prop:=e = .returned (.tuple #[])/\∃rb,Below n w w'/\F3 w.heap.size w' rb/\RB w' b 0 x1 (.iface 283 (E (B ⟨rb,0,A⟩))) (C A 0 0)
theorem Rd(b n)(hn:n<=b)(x1 ob oc w)(hnw:n<=w.heap.size)(h:RB w b 0 x1 .nilIface (C (B ⟨ob,0,A⟩) 6 oc))(hs:Dx w (B ⟨ob,0,A⟩) Du):
  Calls Tryz.prog 174 #[E (B ⟨b,0,A⟩)] w (PBOnce b n x1 w):=by
 have HB:=Lq7 (Ab8 b x1 ob oc w h hs);have H:=Lq7 h;go_enter Tryz.func174,Tryz.ntmps174;go_wp2_with fail;refine HB.out.mono ?_;rintro e w1 ⟨rb,rfl,aE,aA⟩;have H1:Hid (RB w1 b 0 x1 .nilIface (C (B ⟨ob,0,A⟩) 6 oc)):=Lq7 (stays H.out aE);obtain⟨q0,q1,q2,q3,q4,q5,q6,q7,q8,q9,q10⟩:=Aa H1.out;have hbl:=here H.out;have HR:=Lq7 (aIn (aE.mono hnw) (aIn aA (aIn H1.out hbl)));go_wp2_with fail;refine bodyPost_ret (results_none rfl _ _ _) rfl ?_;obtain⟨h1,h2,h3,h4⟩:=HR.out;refine⟨rfl,rb,(h1.setCell (p:=⟨b,3,A⟩) hn _).setCell (p:=⟨b,4,A⟩) hn _,h2.keep fun k hk hl=>?_,?_⟩
 ·rw[Ad (by omega),Ad (by omega)]
 ·unfold RB at h3 |-;rw[Af (Af h3 3 _) 4];rfl
def PSlow(b n:Nat)(w:World)(e:Ending)(w':World):Prop:=e = .returned (.tuple #[])/\∃rb,Below n w w'/\F3 w.heap.size w' rb/\RB w' b 1 0 (.iface 283 (E (B ⟨rb,0,A⟩))) (C A 0 0)
theorem slow_any(b n)(hn:n<=b)(ob oc w)(hnw:n<=w.heap.size)(h:RB w b 0 0 .nilIface (C (B ⟨ob,0,A⟩) 6 oc))(hs:Dx w (B ⟨ob,0,A⟩) Du)(hob:ob≠b):
  Calls Tryz.prog 205 #[E (B ⟨b,0,A⟩),.func (.func 174) #[E (B ⟨b,0,A⟩)] #[]] w (PSlow b n w):=by
 obtain⟨hbl,g0,g1,g2,g3,g4,k0,k1,k2,k3,k4⟩:=Aa h;have h1:RB (w.setCell ⟨b,1,A⟩ (.int .i32 1)) b 0 1 .nilIface (C (B ⟨ob,0,A⟩) 6 oc):=by
  unfold RB at h |-;rw[Af h 1];rfl
 have hs1:Dx (w.setCell ⟨b,1,A⟩ (.int .i32 1)) (B ⟨ob,0,A⟩) Du:=fun j x hj=>by
  obtain⟨b',off,e,hc⟩:=hs j x hj;cases e;exact⟨ob,0,rfl,(World.cell?_setCell_other _ _ _ _ (by simp[])).trans hc⟩
 have HD:=Lq7 (Sa ⟨b,0,A⟩ 0 (w.setCell ⟨b,1,A⟩ (.int .i32 1)) ((World.cell?_setCell_other _ ⟨b,1,A⟩ ⟨b,0,A⟩ _ (by simp)).trans g0));have aC:∀(x:Bool) (w:World),(Op.unary .not (.bool x)).run Tryz.prog w = .ok (.bool (!x)) w:=fun _ _=>rfl;have HB:=Lq7 (Rd b n hn 1 ob oc _ (by simpa using hnw) h1 hs1);have HL:=Lq7 (Aa4 ⟨b,1,A⟩ w g1 k1)
 go_enter_defers Tryz.func205,Tryz.ntmps205
 go_wp2_with fail;refine HL.out.mono ?_;rintro e w' ⟨rfl,rfl⟩;go_wp2_with fail;refine HD.out.mono ?_;rintro e w' ⟨rfl,rfl⟩;go_wp2_with fail;refine HB.out.mono ?_;rintro e w2 ⟨rfl,rb,aF,aA,aG⟩;have H2:=Lq7 (aIn aF (aIn aA aG));obtain⟨-,q0,q1,q2,q3,q4,l0,l1,l2,l3,l4⟩:=Aa aG;have hs2:w.heap.size<=w2.heap.size:=by
  have:=here h;have h3:=aA;obtain⟨d,v,-,-,-,-,-,h9⟩:=h3;have:=aF.size
  simpa using this
 go_wp2_with fail;refine leaves_cons (f:=224) (args:=#[E (B ⟨b,0,A⟩),.bool true]) (by simp) (by simp[go_sem]) ?_;refine(Qi ⟨b,0,A⟩ (.int .u32 0) .returning _ q0 l0).mono ?_;rintro e u' w'' ⟨rfl,rfl,rfl⟩;refine leaves_cons (f:=223) (args:=#[E (B ⟨b,1,A⟩)]) (by simp[settle]) (by simp[go_sem]) ?_;refine(O4 ⟨b,1,A⟩ _ _ ?_ (by simp[l1])).mono ?_
 ·refine(World.cell?_setCell_other _ ⟨b,0,A⟩ ⟨b,1,A⟩ _ (by simp)).trans ?_;rw[World.cell?_drew];exact q1
 rintro e u' w'' ⟨rfl,rfl,rfl⟩;have aD:∃rb,Below n w (((w2.drew).setCell ⟨b,0,A⟩ (.int .u32 1)).setCell ⟨b,1,A⟩ (.int .i32 0))/\F3 w.heap.size (((w2.drew).setCell ⟨b,0,A⟩ (.int .u32 1)).setCell ⟨b,1,A⟩ (.int .i32 0)) rb/\RB (((w2.drew).setCell ⟨b,0,A⟩ (.int .u32 1)).setCell ⟨b,1,A⟩ (.int .i32 0)) b 1 0 (.iface 283 (E (B ⟨rb,0,A⟩))) (C A 0 0):=by
  obtain⟨h1,h2,h3⟩:=H2.out;have aB:Below n w (w.setCell ⟨b,1,A⟩ (.int .i32 1)):=(Below.refl n w).setCell (p:=⟨b,1,A⟩) hn _;have hd1:Below n w w2:=⟨h1.os.trans aB.os,h1.tape.trans aB.tape,h1.output.trans aB.output,Nat.le_trans aB.size h1.size,fun k hk=>(h1.block k hk).trans (aB.block k hk)⟩;refine⟨rb,((hd1.drew).setCell (p:=⟨b,0,A⟩) hn _).setCell (p:=⟨b,1,A⟩) hn _,?_,?_⟩
  ·have h2':F3 w.heap.size w2 rb:=(by simpa using h2);refine h2'.keep fun k hk hl=>?_;rw[Ad (by omega),Ad (by omega)];rfl
  ·unfold RB at h3 |-;have h3':w2.drew.heap[b]? = _:=h3;rw[Af (Af h3' 0 _) 1];rfl
 have hf2:PSlow b n w (.returned (.tuple #[])) (((w2.drew).setCell ⟨b,0,A⟩ (.int .u32 1)).setCell ⟨b,1,A⟩ (.int .i32 0)):=⟨rfl,aD⟩
 simpa[Leaves,settle,results,Tryz.results205] using hf2
theorem once_any(b n)(hn:n<=b)(ob oc w)(hnw:n<=w.heap.size)(h:RB w b 0 0 .nilIface (C (B ⟨ob,0,A⟩) 6 oc))(hs:Dx w (B ⟨ob,0,A⟩) Du)(hob:ob≠b):
  Calls Tryz.prog 173 #[E (B ⟨b,0,A⟩),.func (.func 174) #[E (B ⟨b,0,A⟩)] #[]] w (PSlow b n w):=by
 obtain⟨hbl,g0,-⟩:=Aa h;have aC:∀(x:Bool) (w:World),(Op.unary .not (.bool x)).run Tryz.prog w = .ok (.bool (!x)) w:=fun _ _=>rfl;have HD:=Lq7 (Sa ⟨b,0,A⟩ 0 w g0);have HS:=Lq7 (slow_any b n hn ob oc w hnw h hs hob);go_enter Tryz.func173,Tryz.ntmps173;go_wp2_with fail;refine HD.out.mono ?_;rintro e w' ⟨rfl,rfl⟩;go_wp2_with fail;refine HS.out.mono ?_;rintro e w2 ⟨rfl,hf⟩;go_wp2_with fail
 go_end0
 exact⟨rfl,hf⟩
def wrote:Array Value->Nat->List Value->Array Value
 | c,_,[]=>c
 | c,o,v::r=>wrote (c.setIfInBounds o v) (o+1) r
theorem wrote_size:∀(vs:List Value) (c:Array Value) (o:Nat),(wrote c o vs).size=c.size
 | [],_,_=>rfl
 | v::r,c,o=>by rw[wrote,wrote_size r,Array.size_setIfInBounds]
theorem wrote_get:∀(vs:List Value) (c:Array Value) (o k:Nat),o+vs.length<=c.size->(wrote c o vs)[k]? = if o<=k/\k<o+vs.length then vs[k-o]? else c[k]?
 | [],c,o,k,_=>by
  rw[wrote,if_neg (by simp only[List.length_nil];omega)]
 | v::r,c,o,k,h=>by
  rw[lnC] at h;rw[wrote,wrote_get r _ _ _ (by rw[Array.size_setIfInBounds];omega),lnC];by_cases h1:o+1<=k/\k<o+1+r.length
  ·rw[if_pos h1,if_pos (by omega),show k-o=k-(o+1)+1 by omega,List.getElem?_cons_succ]
  ·rw[if_neg h1];by_cases h2:k=o
   ·subst h2;rw[if_pos (by omega),Nat.sub_self,List.getElem?_cons_zero,Array.getElem?_setIfInBounds_self_of_lt (by omega)]
   ·rw[if_neg (by omega),Array.getElem?_setIfInBounds_ne (fun e=>h2 e.symm)]
theorem setCells_block(g):∀(vs:List Value) (o:Nat) (w:World) (cur:Array Value) (e:TypeId) (fz:Nat×Nat),w.heap[g]? = B (.cells cur e fz)->(w.setCells g o vs).heap[g]? = B (.cells (wrote cur o vs) e fz)
 | [],_,_,_,_,_,h=>h
 | v::r,o,w,cur,e,fz,h=>by
  rw[World.setCells,wrote];refine setCells_block g r (o+1) _ _ e fz ?_;simp[World.setCell,Array.getElem?_modify,h]
theorem Db(g k)(hk:k≠g):∀(vs:List Value) (o:Nat) (w:World),(w.setCells g o vs).heap[k]? = w.heap[k]?
 | [],_,_=>rfl
 | v::r,o,w=>by rw[World.setCells,Db g k hk r,Below.heap_setCell _ _ _ _ hk]
theorem D6(g):∀(vs:List Value) (o:Nat) (w:World),(w.setCells g o vs).heap.size=w.heap.size
 | [],_,_=>rfl
 | v::r,o,w=>by rw[World.setCells,D6 g r];simp[World.setCell]
theorem Ov{css:List (List Value)}{size:Nat}(hsz:∀cs∈css,cs.length=size):css.flatten.length=css.length*size:=by
 induction css with
 | nil=>simp
 | cons c t ih=>
  rw[List.flatten_cons,List.length_append,ih fun cs h=>hsz cs (List.mem_cons_of_mem _ h),hsz c (List.mem_cons_self ..),lnC,Nat.add_mul];omega
theorem OwnD.put{F w base e size g n cap l}(h:OwnD F w base e size (C (B ⟨g,0,A⟩) n cap) l)(h0:0<size){j}(hj:j<l.length){ds cs}(hcs:cs.length=size)(hd:Ai (fun b=>F b/\b≠g) w ds cs):OwnD F (w.setCells g (j*size) cs) base e size (C (B ⟨g,0,A⟩) n cap) (l.set j ds):=by
 obtain⟨css,hlen,hsz,⟨h1,⟨h2,-⟩|⟨g',cap',cur,h2,h3,h4,h5,h6,h7,h8⟩⟩,aB⟩:=h
 ·cases h2
 ·injection h2 with e1 e2 e3;injection e1 with e1;injection e1 with e1;subst e1;subst e3;have hst:∀b,(F b/\b≠g)->b<w.heap.size->(F b/\b≠g)/\b<(w.setCells g (j*size) cs).heap.size/\(w.setCells g (j*size) cs).heap[b]? = w.heap[b]?:=
   fun b hb hl=>⟨hb,by rw[D6];exact hl,Db g b hb.2 _ _ _⟩
  have hjn:(j+1)*size<=l.length*size:=Nat.mul_le_mul_right _ (by omega);have hcn:l.length*size<=cap*size:=Nat.mul_le_mul_right _ h5;have aA:j*size+cs.length<=cur.size:=(by rw[hcs,h7];rw[Nat.add_mul] at hjn;omega);have hsz':∀c∈css.set j cs,c.length=size:=fun c hc=>by
   rcases List.mem_or_eq_of_mem_set hc with h|rfl
   ·exact hsz c h
   ·exact hcs
  refine⟨css.set j cs,by rw[List.length_set,List.length_set,hlen],hsz',⟨?_,.inr ⟨g,cap,wrote cur (j*size) cs,by rw[List.length_set,<-e2],h3,setCells_block g cs _ w cur e _ h4,by rw[List.length_set];exact h5,h6,by rw[wrote_size,h7],?_⟩⟩,?_⟩
  ·rw[Ov hsz',List.length_set,List.length_set,hlen]
  ·apply List.ext_getElem?;intro k;rw[List.length_set];by_cases hk:k<l.length*size
   ·rw[List.getElem?_take_of_lt hk,Array.getElem?_toList,wrote_get _ _ _ _ aA,hcs];have hq:k / size<l.length:=(Nat.div_lt_iff_lt_mul h0).2 hk;have hr:k % size<size:=Nat.mod_lt _ h0;have aC:k=k / size*size+k % size:=(by rw[Nat.mul_comm];exact(Nat.div_add_mod k size).symm);by_cases hqj:k / size=j
    ·have hs1:(css.set j cs)[j]? = B cs:=(by rw[List.getElem?_set_self (by omega)]);have aD:cs[k % size]? = B (cs[k % size]'(by omega)):=lgE (by omega);have aE:=Fy hsz' hs1 aD;rw[hqj] at aC;rw[<-aC] at aE;rw[if_pos (by omega),aE,show k-j*size=k % size by omega,aD]
    ·have aF:css[k / size]? = B (css[k / size]'(by omega)):=lgE (by omega);have hcl:=hsz _ (List.getElem_mem (by omega:k / size<css.length));have aG:(css[k / size]'(by omega))[k % size]? = B ((css[k / size]'(by omega))[k % size]'(by omega)):=lgE (by omega);have aH:=Fy hsz aF aG;have aJ:=Fy hsz' (css:=css.set j cs) (j:=k / size) (by rw[List.getElem?_set_ne (fun h=>hqj h.symm)];exact aF) aG;rw[<-aC] at aH aJ;have hno:¬(j*size<=k/\k<j*size+size):=by
      rintro⟨a1,a2⟩;apply hqj;have:k<(j+1)*size:=(by rw[Nat.add_mul];omega);exact Nat.le_antisymm (Nat.lt_succ_iff.1 ((Nat.div_lt_iff_lt_mul h0).2 this)) ((Nat.le_div_iff_mul_le h0).2 a1)
     rw[if_neg hno,aJ,<-aH,<-h8,List.getElem?_take_of_lt hk];exact(Array.getElem?_toList ..).symm
   ·rw[List.getElem?_eq_none (by rw[List.length_take];omega),List.getElem?_eq_none (by rw[Ov hsz',List.length_set,hlen];omega)]
  ·intro i ds' cs' hi hc;by_cases hij:j=i
   ·subst hij;rw[List.getElem?_set_self hj] at hi;rw[List.getElem?_set_self (by omega)] at hc;cases hi;cases hc;refine(hd.mono hst).wider fun b hb _=>⟨hb.1,fun e=>hb.2 (by injection e with e;exact e.symm)⟩
   ·rw[List.getElem?_set_ne hij] at hi hc;exact(aB i ds' cs' hi hc).mono fun b hb hl=>⟨hb,by rw[D6];exact hl,Db g b (fun e=>hb.2 (by rw[e];rfl)) _ _ _⟩
theorem L4(v):Mc (valD v):=by
 obtain⟨k,n,s,l,ks⟩:=v;intro u hu;simp only[valD,List.mem_cons,List.not_mem_nil,or_false,Dat.one.injEq,reduceCtorEq] at hu;rcases hu with rfl|rfl|rfl<;>rfl
mutual
def ndD:Nd->List Dat
 | .mk k t l c kids=>[.one (.int .i64 k),.one (D t),.one (.int .i64 l),.one (.int .i64 c),.row (ndsD kids)]
def ndsD:List Nd->List (List Dat)
 | []=>[]
 | n::t=>ndD n::ndsD t
end
theorem Mu(l):ndsD l=l.map ndD:=by
 induction l with
 | nil=>simp[ndsD]
 | cons n t ih=>simp[ndsD,ih]
theorem Mw(l):(ndsD l).length=l.length:=by rw[Mu,List.length_map]
mutual
def fewN:Nd->Prop | .mk _ _ _ _ kids=>kids.length<=140737488355328/\fewNs kids
def fewNs:List Nd->Prop
 | []=>True
 | n::t=>fewN n/\fewNs t
end
theorem Ac.nd{F w a l}(h:Ac F w a (ndsD l)){j k ln cl t m}(hj:l[j]? = B (.mk k t ln cl m)):
  ∃b off a1 c1,a=B ⟨b,off,A⟩/\F b/\b<w.heap.size/\w.cell? ⟨b,off+j*5,A⟩=B (.int .i64 k)/\w.cell? ⟨b,off+j*5+1,A⟩=B (D t)/\w.cell? ⟨b,off+j*5+2,A⟩=B (.int .i64 ln) /\
   w.cell? ⟨b,off+j*5+3,A⟩=B (.int .i64 cl)/\w.cell? ⟨b,off+j*5+4,A⟩=B (C a1 m.length c1)/\Ac F w a1 (ndsD m):=by
 obtain⟨b,off,cs,ha,hF,hb,hd,hc⟩:=h j (ndD (.mk k t ln cl m)) (by rw[Mu,List.getElem?_map,hj];rfl);rw[ndD] at hd hc;obtain⟨c0,cs,rfl,h0,hd⟩:=hd.cons_inv;obtain⟨c1,cs,rfl,h1,hd⟩:=hd.cons_inv;obtain⟨c2,cs,rfl,h2,hd⟩:=hd.cons_inv;obtain⟨c3,cs,rfl,h3,hd⟩:=hd.cons_inv;obtain⟨c4,cs,rfl,h4,hd⟩:=hd.cons_inv;obtain rfl:=hd.nil_inv;obtain rfl:=h0.one_inv;obtain rfl:=h1.one_inv;obtain rfl:=h2.one_inv;obtain rfl:=h3.one_inv;obtain⟨a1,cap,rfl,hr⟩:=h4.row_inv;rw[Mw] at hc;exact⟨b,off,a1,cap,ha,hF,hb,hc 0 _ rfl,hc 1 _ rfl,hc 2 _ rfl,hc 3 _ rfl,hc 4 _ rfl,hr⟩
def Nd.lnN:Nd->Int | .mk _ _ l _ _=>l
def Nd.clN:Nd->Int | .mk _ _ _ c _=>c
def Nz{α:Type}(m:PM α):Prop:=∀ts d e l c,m ts d = .err e l c->e≠0
section
variable {α β:Type} {en:Int×Int}
theorem Nz.pure(x:α):Nz (PM.pure x):=fun ts d e l c h=>by cases h
theorem Nz.bind{m:PM α}{f:α->PM β}(h1:Nz m)(h2:∀x,Nz (f x)):Nz (PM.bind m f):=by
 intro ts d e l c h;unfold PM.bind at h;cases hm:m ts d with
 | ok x t1 d1=>rw[hm] at h;exact h2 x _ _ _ _ _ h
 | err a b k=>rw[hm] at h;cases h;exact h1 _ _ _ _ _ hm
 | out=>rw[hm] at h;cases h
theorem Nz.look{f:List Tok->PM α}(h:∀ts,Nz (f ts)):Nz (pLook f):=fun ts d e l c h'=>h ts ts d e l c h'
theorem Nz.ite{c:Prop}[Decidable c]{m m':PM α}(h1:Nz m)(h2:Nz m'):Nz (if c then m else m'):=by split;exact h1;exact h2
theorem Nz.out:Nz (fun _ _=>(.out:PR α)):=fun ts d e l c h=>by cases h
theorem Nz.take(b:Bool):Nz (A3 en b):=by
 intro ts d e l c h;unfold A3 at h;split at h
 ·split at h<;>cases h
 ·unfold pFail at h;cases h
  decide
theorem Nz.open(b:Bool):Nz (Dc en b):=by
 intro ts d e l c h;unfold Dc at h;split at h
 ·unfold pFail at h;cases h
  decide
 ·exact Nz.take _ _ _ _ _ _ h
theorem Nz.eat(s:List UInt8):Nz (C2 en s):=fun ts d e l c h=>Nz.bind (Nz.take _) (fun _=>Nz.pure _) ts d e l c h
theorem Nz.down:Nz pDown:=fun ts d e l c h=>by cases h
theorem Nz.close(s:List UInt8):Nz (Dh en s):=Nz.bind (Nz.eat s) (fun _=>Nz.down)
theorem Nz.listGo{to:List UInt8}{one:PM (List Nd)}(h:Nz one):∀f acc,Nz (Ce en to one f acc)
 | 0,_=>Nz.out
 | f+1,_acc=>Nz.look fun _=>Nz.ite (Nz.pure _) (Nz.bind (Nz.ite (Nz.pure _) (Nz.eat _)) (fun _=>Nz.bind h (fun _=>Nz.listGo h f _)))
theorem Nz.list{to:List UInt8}{one:PM (List Nd)}(h:Nz one):Nz (Ct en to one):=fun ts d e l c h'=>Nz.listGo h _ _ ts d e l c h'
structure LNz(L:Lvl):Prop where
 expr:Nz L.expr
 prim:Nz L.prim
 stmt:Nz L.stmt
variable {L:Lvl} (hL:LNz L)
include hL
theorem Nz.arg:Nz (pArg en L):=Nz.look fun _=>Nz.ite (Nz.bind (Nz.take _) (fun _=>Nz.bind (Nz.eat _) (fun _=>Nz.bind hL.expr (fun _=>Nz.pure _)))) (Nz.bind hL.expr (fun _=>Nz.pure _))
theorem Nz.call:Nz (pCall en L):=Nz.look fun _=>Nz.bind (Nz.take _) (fun _=>Nz.look fun _=>Nz.bind (Nz.open _) (fun _=>Nz.bind (Nz.list (Nz.bind (Nz.arg hL) (fun _=>Nz.pure _))) (fun _=>Nz.bind (Nz.close _) (fun _=>Nz.pure _))))
theorem Nz.entry:Nz (pEntry en L):=Nz.look fun _=>Nz.bind (Nz.take _) (fun _=>Nz.bind (Nz.eat _) (fun _=>Nz.bind hL.expr (fun _=>Nz.pure _)))
theorem Nz.prim:Nz (pPrim en L):=Nz.look fun _=>
 Nz.ite (Nz.bind (Nz.take _) (fun _=>Nz.pure _))<|Nz.ite (Nz.bind (Nz.take _) (fun _=>Nz.pure _))<|Nz.ite (Nz.call hL)<|Nz.ite (Nz.bind (Nz.take _) (fun _=>Nz.pure _)) <|
 Nz.ite (Nz.bind (Nz.open _) (fun _=>Nz.bind hL.prim (fun _=>Nz.bind Nz.down (fun _=>Nz.pure _)))) <|
 Nz.ite (Nz.bind (Nz.open _) (fun _=>Nz.bind (Nz.list (Nz.bind hL.expr (fun _=>Nz.pure _))) (fun _=>Nz.bind (Nz.close _) (fun _=>Nz.pure _)))) <|
 Nz.ite (Nz.bind (Nz.open _) (fun _=>Nz.bind (Nz.list (Nz.entry hL)) (fun _=>Nz.bind (Nz.close _) (fun _=>Nz.pure _)))) <|
 Nz.bind (Nz.open _) (fun _=>Nz.bind hL.expr (fun _=>Nz.bind (Nz.close _) (fun _=>Nz.pure _)))
theorem Nz.sumGo:∀f x,Nz (pSumGo en L f x)
 | 0,_=>Nz.out
 | f+1,_=>Nz.look fun _=>Nz.ite (Nz.bind (Nz.take _) (fun _=>Nz.bind (Nz.prim hL) (fun _=>Nz.sumGo f _))) (Nz.pure _)
theorem Nz.sum:Nz (pSum en L):=Nz.bind (Nz.prim hL) (fun _x ts d y ts' d' e=>Nz.sumGo hL _ _ ts d y ts' d' e)
theorem Nz.expr:Nz (Dd en L):=Nz.bind (Nz.sum hL) (fun _=>Nz.look fun _=>Nz.ite (Nz.bind (Nz.take _) (fun _=>Nz.bind (Nz.sum hL) (fun _=>Nz.pure _))) (Nz.pure _))
theorem Nz.stmtsGo(to:List UInt8):∀f acc,Nz (Cj en L to f acc)
 | 0,_=>Nz.out
 | f+1,_=>Nz.look fun _=>Nz.ite (Nz.bind hL.stmt (fun _=>Nz.stmtsGo to f _)) (Nz.pure _)
theorem Nz.stmts(to:List UInt8):Nz (Cp en L to):=fun ts d e l c h'=>Nz.stmtsGo hL to _ _ ts d e l c h'
theorem Nz.block:Nz (B9 en L):=Nz.look fun _=>Nz.bind (Nz.open _) (fun _=>Nz.bind (Nz.stmts hL _) (fun _=>Nz.bind (Nz.close _) (fun _=>Nz.pure _)))
theorem Nz.param:Nz (C3 en L):=Nz.look fun _=>Nz.bind (Nz.take _) (fun _=>Nz.bind (Nz.eat _) (fun _=>Nz.look fun _=>Nz.bind (Nz.take _) (fun _=>Nz.look fun _=>
 Nz.ite (Nz.bind (Nz.eat _) (fun _=>Nz.bind (Nz.expr hL) (fun _=>Nz.pure _))) (Nz.pure _))))
theorem Nz.rule:Nz (pRule en L):=Nz.bind (Nz.take _) (fun _=>Nz.look fun _=>Nz.bind (Nz.take _) (fun _=>Nz.bind (Nz.eat _) (fun _=>Nz.bind (Nz.list (Nz.bind (Nz.param hL) (fun _=>Nz.pure _))) (fun _=>
 Nz.bind (Nz.eat _) (fun _=>Nz.bind (Nz.block hL) (fun _=>Nz.pure _))))))
theorem Nz.stmt:Nz (pStmt en L):=Nz.look fun _=>
 Nz.ite (Nz.bind (Nz.take _) (fun _=>Nz.look fun _=>Nz.bind (Nz.take _) (fun _=>Nz.look fun _=>Nz.bind (Nz.take _) (fun _=>Nz.bind (Nz.expr hL) (fun _=>Nz.bind (Nz.block hL) (fun _=>Nz.pure _)))))) <|
 Nz.ite (Nz.bind (Nz.take _) (fun _=>Nz.bind (Nz.expr hL) (fun _=>Nz.bind (Nz.block hL) (fun _=>Nz.look fun _=>Nz.ite (Nz.bind (Nz.take _) (fun _=>Nz.bind (Nz.block hL) (fun _=>Nz.pure _))) (Nz.pure _))))) <|
 Nz.ite (Nz.rule hL) <|
 Nz.ite (Nz.bind (Nz.call hL) (fun _=>Nz.bind (Nz.eat _) (fun _=>Nz.pure _))) <|
 Nz.bind (Nz.take _) (fun _=>Nz.bind (Nz.eat _) (fun _=>Nz.bind (Nz.expr hL) (fun _=>Nz.bind (Nz.eat _) (fun _=>Nz.pure _))))
end
theorem LNz.lvl(en):∀f,LNz (lvl en f)
 | 0=>⟨Nz.out,Nz.out,Nz.out⟩
 | f+1=>⟨Nz.expr (LNz.lvl en f),Nz.prim (LNz.lvl en f),Nz.stmt (LNz.lvl en f)⟩
theorem next_nz{l e}(h:Bu l = .error e):e≠0:=by
 unfold Bu at h;split at h
 ·cases h;decide
 ·split at h
  ·cases h
  split at h
  ·cases h
  split at h
  ·cases h
  split at h
  ·unfold C8 at h;split at h
   ·cases h;decide
   split at h
   ·cases h;decide
   ·cases h
  split at h
  ·split at h
   ·cases h
   ·cases h;decide
  split at h
  ·cases h
  split at h
  ·cases h
  ·cases h;decide
theorem tokens_nz:∀(f:Nat) (p:Int×Int) (l:List UInt8) (e:Int×Int×Int),Bt f p l = .error e->e.1≠0
 | 0,_,_,_,h=>by rw[Bt] at h;cases h
 | f+1,p,l,e,h=>by
  rw[Bt] at h;split at h
  ·cases h
  ·split at h
   ·next hn=>cases h;exact next_nz hn
   ·split at h
    ·next ht=>cases h;exact tokens_nz f _ _ _ ht
    ·cases h
theorem Tq{l e}(h:readL l=B (.error e)):e.1≠0:=by
 unfold readL at h;split at h
 ·next hl=>
  cases h;unfold G6 at hl;split at hl
  ·cases hl;decide
  ·exact tokens_nz _ _ _ _ hl
 ·split at h
  ·cases h
  ·next hs=>cases h;exact Nz.stmts (LNz.lvl _ _) _ _ _ _ _ _ hs
  ·cases h
end Go.Proofs.YtlbbbapiklendaaGreatDoor
