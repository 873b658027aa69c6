/-
  What the walk of the document's Num wants of texts. (And what it stands on.)
-/
import Derived.Lib.ItoaLen
import Derived.Test.YtlbbbapiklendaaGreatDoorMPathPart
import Derived.Test.YtlbbbapiklendaaGreatDoorMRegionHeldD
import Derived.Test.YtlbbbapiklendaaGreatDoorMEvalPlain
namespace Go.Proofs.YtlbbbapiklendaaGreatDoor
open Go.IntKind renaming i64->C
open Go.Value renaming int->A,string->E,slice->H
open Go.Obj renaming cells->J
open Option renaming some->D,none->I
open Go Go.RowKit
open List renaming getElem?_eq_getElem->lgE,getElem?_eq_some_iff->lgS,length_cons->lnC,length_append->lnA,length_map->lnM,length_take->lnT,getElem?_map->lgP,take_of_length_le->ltL,length_nil->lnN,mem_of_getElem? -> lgM
open Nat renaming le_refl->nlr,lt_of_lt_of_le->nll,zero_le->nlz
open Go.Lib renaming hid->Lq7,toList_data->Lq8
open Go.RowKit.Below renaming refl->bRf
open _root_.Array renaming getElem?_eq_some_iff->agS
open And renaming intro->aIn
set_option maxRecDepth 100000
set_option maxHeartbeats 16000000
theorem behindLast_eq(s)(h:0<s.data.toList.count 10):∃i:Nat,i<s.size/\Lib.lastIndexByte s 10=(i:Int)/\behindLast s.data.toList+1=s.size-i:=by
 have aE:∀(j:Nat) (hj:j<s.size),s.data.toList[j]? = D (s.data[j]!):=fun j hj=>by
  have h1:=Ki s j hj;rw[h1];have h2:s.data[j]! = s.data[j]'hj:=getElem!_pos s.data j hj;rw[h2];rfl
 rcases Lib.lastIndexByte_spec s 10 with⟨e,hn⟩|⟨i,hi,e,hc,hn⟩
 ·exfalso;obtain⟨j,hj⟩:=List.getElem?_of_mem (List.count_pos_iff.1 h);have aA:=(lgS.1 hj).1;rw[Al] at aA;rw[aE j aA] at hj;exact hn j aA (by rw[Option.some.inj hj];rfl)
 ·refine⟨i,hi,e,?_⟩;have aF:i<s.data.toList.length:=(by rw[Al];exact hi);have h10:s.data.toList[i]'aF=10:=by
   have:=aE i hi;rw[lgE aF] at this;rw[Option.some.inj this];exact UInt8.toNat_inj.1 (by show _=10;omega)
  have aB:s.data.toList=s.data.toList.take i++10::s.data.toList.drop (i+1):=by
   rw[<-h10,<-List.drop_eq_getElem_cons aF,List.take_append_drop]
  have aC:∀x∈(s.data.toList.drop (i+1)).reverse,decide (x≠10)=true:=by
   intro x hx;rw[List.mem_reverse] at hx;obtain⟨j,hj⟩:=List.getElem?_of_mem hx;rw[List.getElem?_drop] at hj;have aA:=(lgS.1 hj).1;rw[Al] at aA;rw[aE _ aA] at hj;have:=hn (i+1+j) (by omega) aA;rw[Option.some.inj hj] at this;simp;rintro rfl;exact this rfl
  have hb:behindLast s.data.toList=s.size-i - 1:=by
   unfold behindLast;rw[aB,List.reverse_append,List.reverse_cons,List.append_assoc,List.takeWhile_append_of_pos aC,List.singleton_append,List.takeWhile_cons_of_neg (by simp),List.append_nil,List.length_reverse,List.length_drop,Al];omega
  omega
def PPlace(p:Int×Int)(w:World)(e:Ending)(w':World):Prop:=Below w.heap.size w w'/\e = .returned (.agg #[A C p.1,A C p.2])
theorem Vd(ln cl s w)(hs:s.size<=65536)(hl0:0<=ln)(hl1:ln<=1000000)(hc0:0<=cl)(hc1:cl<=1000000):
  Calls Tryz.prog 32 #[.agg #[A C ln,A C cl],E s] w (PPlace (passL (ln,cl) s.data.toList) w):=by
 go_enter Tryz.func32,Tryz.ntmps32;go_wp2_with fail;refine(Tryz.strings_Count_one s 10 _).mono ?_;rintro e w2 ⟨rfl,aD⟩;have aD:=aD.symm;subst aD;by_cases hn:0<s.data.toList.count 10
 ·obtain⟨i,hi,aH,hbl⟩:=behindLast_eq s hn;have aG:s.data.toList.count 10<=s.size:=(by rw[<-Al];exact List.count_le_length ..);have Hr:Hid (passL (ln,cl) s.data.toList=(ln+(s.data.toList.count 10:Int),((s.size-i:Nat):Int))):=Lq7 (by unfold passL;rw[if_pos hn,<-hbl];simp);have aJ:((s.size-i:Nat):Int)=(s.size:Int)-(i:Int):=(by omega);have Hsi:=Lq7 aJ;rw[show Lib.countByte s.data.toList 10=s.data.toList.count 10 from rfl];generalize s.data.toList.count 10=m0 at hn aG Hr |-;have Hli:=Lq7 aH;have hn':(0:Int)<(m0:Int):=(by omega);have hw1:=IntWalk.i64_in (ln+(m0:Int)) (by omega);clear aH hbl aJ;go_wp2_with fail;refine Rf [10] (by kernel_rfl) (by kernel_rfl) ?_;refine Ab6 10 (by decide) ?_;simp only[List.take_succ_cons,List.take_zero,List.drop_succ_cons,List.drop_zero]
  repeat (first
   | go_big_quiet_step ((go_at_call 63;exact Calls.quiet_of_same (Tryz.strings_LastIndexByte s 10 (by omega) _)))
   | quiet_step ((go_at_call 63;exact Calls.quiet_of_same (Tryz.strings_LastIndexByte s 10 (by omega) _))))
  refine wpQuiet_nil ?_;refine Ab7 (by decide) (fun n K hK=>?_);rw[Hli.out];have aD:=IntWalk.wrap64_in ((s.size:Int)-(i:Int)) (by omega);go_wp2_with fail;refine mix_end (fun m=>?_);go_wp2_with fail;refine bodyPost_ret (v:=.agg #[A C (ln+m0),A C ((s.size:Int)-(i:Int))]) (by simp[results,Tryz.results32,go_sem]) rfl ?_;rw[Hr.out,Hsi.out];refine⟨Cy ((Cy (((bRf _ _).alloc (nlr _) _).alloc (by simp) _) n).setCell (p:=⟨w.heap.size+1,0,I⟩) (by simp) _ |>.setCell (p:=⟨w.heap.size+1,1,I⟩) (by simp) _) m,rfl⟩
 ·have aM:Lib.countByte s.data.toList 10=0:=(by unfold Lib.countByte;omega);have Hr:Hid (passL (ln,cl) s.data.toList=(ln,cl+s.size)):=Lq7 (by unfold passL;rw[if_neg hn,Al]);rw[aM];clear hn aM;go_wp2_with fail;refine bodyPost_ret (v:=.agg #[A C ln,A C (cl+s.size)]) (by simp[results,Tryz.results32,go_sem]) rfl ?_;rw[Hr.out];exact⟨((bRf _ _).alloc (nlr _) _).alloc (by simp) _,rfl⟩
theorem quotedL_le:∀(f:Nat) (l:List UInt8) (r:List UInt8×Nat),l.length<=f->Bs l=D r->r.2<=l.length:=by
 intro f
 induction f with
 | zero=>intro l r hl h;obtain rfl:l=[]:=List.length_eq_zero_iff.1 (by omega);cases h
 | succ f ih=>
  intro l r hl h;cases l with
  | nil=>cases h
  | cons c t=>
   rw[C7] at h;simp only[lnC] at hl |-;split at h
   ·cases h;simp
   split at h
   ·cases h
   split at h
   ·cases t with
    | nil=>cases h
    | cons d t'=>
     simp only at h;cases hu:Fo d with
     | none=>rw[hu] at h;cases h
     | some u=>
      rw[hu] at h;cases hq:Bs t' with
      | none=>rw[hq] at h;cases h
      | some r'=>
       rw[hq] at h;cases h;have:=ih t' r' (by simp at hl;omega) hq;simp only[lnC];omega
   ·cases hq:Bs t with
    | none=>rw[hq] at h;cases h
    | some r'=>
     rw[hq] at h;cases h;have:=ih t r' (by omega) hq;simp only;omega
theorem runL_pos{p c t}(h:p c=true):1<=runL p (c::t):=by unfold runL;rw[List.takeWhile_cons_of_pos h];simp
theorem Jd{l x}(h:Bu l = .ok x):1<=x.2.2/\x.2.2<=l.length:=by
 cases l with
 | nil=>cases h
 | cons c t=>
  rw[Bu.eq_def] at h;simp only at h;split at h
  ·rename_i hg;cases h;exact⟨runL_pos hg,runL_le _ _⟩
  split at h
  ·rename_i _ hc;cases h;exact⟨runL_pos (by rw[hc];decide),runL_le _ _⟩
  split at h
  ·rename_i hg;cases h;exact⟨runL_pos (by unfold Cd;rw[hg];rfl),runL_le _ _⟩
  split at h
  ·rename_i hg
   unfold C8 at h;split at h
   ·cases h
   split at h
   ·cases h
   ·cases h;exact⟨runL_pos hg,runL_le _ _⟩
  split at h
  ·split at h
   ·rename_i r hq;cases h;have:=quotedL_le _ _ _ (nlr _) hq;simp only[lnC];omega
   ·cases h
  split at h
  ·rename_i hp
   cases h;refine⟨by simp,?_⟩;cases t with
   | nil=>simp at hp
   | cons d t'=>simp
  split at h
  ·cases h;simp
  ·cases h
theorem Aaq{l n}(h:Bu l = .error n):n=2\/n=3:=by
 cases l with
 | nil=>cases h;simp
 | cons c t=>
  rw[Bu.eq_def] at h;simp only at h;split at h
  ·cases h
  split at h
  ·cases h
  split at h
  ·cases h
  split at h
  ·unfold C8 at h;split at h
   ·cases h;simp
   split at h
   ·cases h;simp
   ·cases h
  split at h
  ·split at h
   ·cases h
   ·cases h;simp
  split at h
  ·cases h
  split at h
  ·cases h
  ·cases h;simp
theorem Rc(l)(h:0<l.count 10):behindLast l+1<=l.length:=by
 unfold behindLast;have hm:(10:UInt8)∈l.reverse:=List.mem_reverse.2 (List.count_pos_iff.1 h);obtain⟨a,b,aA⟩:=List.append_of_mem hm;have hlen:l.length=a.length+(b.length+1):=(by rw[<-List.length_reverse,aA];simp);have:((a++10::b).takeWhile (fun x=>decide (x≠(10:UInt8)))).length<=a.length:=by
  clear aA hlen hm
  induction a with
  | nil=>simp
  | cons x t ih=>
   rw[List.cons_append,List.takeWhile_cons];split
   ·simp only[lnC];exact Nat.succ_le_succ ih
   ·simp
 rw[aA];have h2:=this;simp only[ne_eq] at h2 |-;omega
theorem Mq{ln cl:Int}{l:List UInt8}{m r:Nat}(h0:0<=ln)(h1:0<=cl)(h2:ln+l.length+r<=m)(h3:cl+l.length+r<=m)(h4:l.length+r<=m):
  0<=(passL (ln,cl) l).1/\(passL (ln,cl) l).1+r<=m/\0<=(passL (ln,cl) l).2/\(passL (ln,cl) l).2+r<=m:=by
 have hc:=List.count_le_length (a:=(10:UInt8)) (l:=l);unfold passL;split
 ·rename_i h
  have:=Rc l h;simp only;omega
 ·simp only;omega
def Je(l:List UInt8)(p:Int×Int)(rest:List UInt8)(acc:List Tok):Prop:=
 ∀f,rest.length<f->Bt (l.length+1) (1,1) l=(Bt f p rest).map fun ts=>acc++ts
theorem tokensL_fuel:∀(f g:Nat) (p:Int×Int) (l:List UInt8),l.length<f->l.length<g->Bt f p l=Bt g p l
 | 0,_,_,_,h,_=>by omega
 | f+1,0,_,_,_,h=>by omega
 | f+1,g+1,p,l,hf,hg=>by
  unfold Bt;split
  ·rfl
  ·cases hn:Bu l with
   | error e=>rfl
   | ok x=>
    obtain⟨k,s,n⟩:=x;have h1:=Jd hn;simp only at h1 |-;rw[tokensL_fuel f g _ (l.drop n) (by rw[List.length_drop];omega) (by rw[List.length_drop];omega)]
theorem Je.start(l):Je l (1,1) l []:=by
 intro f hf;rw[tokensL_fuel (l.length+1) f _ l (by omega) hf];cases Bt f (1,1) l<;>rfl
theorem Je.stop{l p acc}(h:Je l p [] acc):Bt (l.length+1) (1,1) l = .ok acc:=by
 rw[h 1 (by simp)];simp[Bt,Except.map]
theorem Je.fail{l rest p acc e}(h:Je l p rest acc)(hr:rest≠[])(he:Bu rest = .error e):Bt (l.length+1) (1,1) l = .error (e,p.1,p.2):=by
 rw[h (rest.length+1) (by omega),Bt,if_neg hr,he];rfl
theorem Je.next{l rest p acc x}(h:Je l p rest acc)(hr:rest≠[])(he:Bu rest = .ok x):
  Je l (passL p (rest.take x.2.2)) (rest.drop x.2.2) (if 0<x.1 then acc++[⟨x.1,⟨x.2.1.toArray⟩,p.1,p.2⟩] else acc):=by
 obtain⟨k,s,n⟩:=x;intro f hf;have h1:=Jd he;simp only at h1 hf |-;rw[List.length_drop] at hf;rw[h (rest.length+1) (by omega),Bt,if_neg hr,he];simp only;rw[tokensL_fuel rest.length f _ (rest.drop n) (by rw[List.length_drop];omega) (by rw[List.length_drop];omega)];cases Bt f (passL p (rest.take n)) (rest.drop n) with
 | error e=>rfl
 | ok ts=>simp only[Except.map];split<;>simp
def N2(t:Tok):List Dat:=[.one (A C t.kind),.one (E t.text),.one (A C t.line),.one (A C t.col)]
def tokC(t:Tok):List Value:=[A C t.kind,E t.text,A C t.line,A C t.col]
theorem tokAgg(F w t):Ai F w (N2 t) (tokC t):=.cons (.one _) (.cons (.one _) (.cons (.one _) (.cons (.one _) .nil)))
theorem infoTok:(Tryz.prog.info? 67).map (fun i=>(i.zero,i.size,i.bytes))=D (D (.agg #[A C 0,E ByteArray.empty,A C 0,A C 0]),4,40):=by kernel_rfl
def PLex(r:Except (Int×Int×Int) (List Tok))(w:World)(e:Ending)(w':World):Prop:=
 Below w.heap.size w w'/\match r with
  | .ok ts=>∃a cap,e = .returned (.tuple #[H a ts.length cap,A C 0,.agg #[A C 0,A C 0]])/\(ts.length<=cap/\cap<=maxLen)/\Ac (fun b=>w.heap.size<=b) w' a (ts.map N2)
  | .error x=>e = .returned (.tuple #[H I 0 0,A C x.1,.agg #[A C x.2.1,A C x.2.2]])
def strSize(v:Value):Nat:=match v with | E s=>s.size|_=>0
theorem Lx{B w w'}(h:Below B w.drew w'):Below B w w':=⟨h.os,h.tape,h.output,h.size,h.block⟩
theorem Ko(w:World)(cs:List Value)(t:TypeId):∀(j:Nat) u,cs[j]? = D u->(w.alloc (.cells cs.toArray t)).cell? ((⟨w.heap.size,0,I⟩:Addr).add j)=D u:=by
 intro j u hj;have h:((⟨w.heap.size,0,I⟩:Addr).add j)=⟨w.heap.size,j,I⟩:=by unfold Addr.add;split<;>simp_all
 rw[h];unfold World.cell?;rw[heap_alloc_new]
 simpa using hj
theorem Tl(s w)(hs:s.size<=9223372036854775807)(hw:Lt w):
  Calls Tryz.prog 15 #[E s] w (PLex (G6 s.data.toList) w):=by
 obtain⟨i0,hi,hz0,hz1,hz2⟩:=info_parts infoTok;by_cases hbig:(65536:Int)<s.size
 ·have Hr:Hid (G6 s.data.toList = .error (6,1,1)):=Lq7 (by unfold G6;rw[if_pos (by rw[Al];omega)]);go_enter Tryz.func15,Tryz.ntmps15;go_wp2_with fail
  go_region
  all_goals
   go_wp2_with fail;refine bodyPost_ret (v:=.tuple #[H I 0 0,A C 6,.agg #[A C 1,A C 1]]) (by simp[results,Tryz.results15,go_sem]) rfl ?_;rw[Hr.out]
   first|exact⟨((bRf _ w).alloc (nlr _) _).alloc (by simp) _,rfl⟩|exact⟨(((bRf _ w).alloc (nlr _) _).alloc (by simp) _).drew,rfl⟩
 ·have Hr:Hid (G6 s.data.toList=Bt (s.data.toList.length+1) (1,1) s.data.toList):=Lq7 (by unfold G6;rw[if_neg (by rw[Al];omega)]);go_enter Tryz.func15,Tryz.ntmps15;go_wp2_with fail;obtain⟨W1,bH⟩:∃W1,W1=(w.alloc (J #[A C 0,A C 0] 24)).alloc (J #[A C 1,A C 1] 24):=⟨_,rfl⟩;rw[<-bH];have cA:Below w.heap.size w W1:=(by rw[bH];exact((bRf _ w).alloc (nlr _) _).alloc (by simp) _);have cC:W1.heap[w.heap.size]? = D (J #[A C 0,A C 0] 24 (0,0)):=(by rw[bH];exact(Below.heap_alloc _ _ _ (by simp)).trans (heap_alloc_new w _));have cD:W1.heap[w.heap.size+1]? = D (J #[A C 1,A C 1] 24 (0,0)):=(by rw[bH];have:=heap_alloc_new (w.alloc (J #[A C 0,A C 0] 24)) (J #[A C 1,A C 1] 24);simpa using this);have Hb1:=Lq7 (aIn cA (aIn cC cD));clear bH cA cC cD
  go_loopw [6,7] (fun v sv wr=>∃(acc:List Tok) (s':ByteArray) (ln cl:Int) (v':Value),v=v'/\sv = E s'/\s'.size<=65536/\0<=ln/\0<=cl/\ln+s'.size<=65537/\cl+s'.size<=65537/\acc.length+s'.size<=65536 /\
   Hid (Je s.data.toList (ln,cl) s'.data.toList acc)/\Hid (OwnD (fun b=>w.heap.size+2<=b) wr (w.heap.size+2) 67 4 v' (acc.map N2))/\Hid (Below w.heap.size w wr/\wr.heap[w.heap.size]? = D (J #[A C 0,A C 0] 24 (0,0))/\wr.heap[w.heap.size+1]? = D (J #[A C ln,A C cl] 24 (0,0)))) (fun _ sv _=>strSize sv)
  case atStart=>exact⟨[],s,1,1,_,rfl,rfl,by omega,by omega,by omega,by omega,by omega,by simp;omega,Lq7 (Je.start _),Lq7 (OwnD.nil _ _ _ _ _),Hb1⟩
  case round=>
   obtain⟨acc,s',ln,cl,v,hv,rfl,hs',bQ,bR,hl1,hc1,hacc,bI,hown,aA⟩:=hrel;have hv:=hv.symm;subst hv;by_cases h0:0<s'.size
   ·have hne:s'.toList.isEmpty=false:=by
     rw[Lq8];cases hl:s'.data.toList with
     | nil=>have:=Al s';rw[hl] at this;simp at this;omega
     | cons=>rfl
    obtain⟨hb,hr,hp⟩:=aA.out;have cE:=next_any s' wr hs' h0 (hw.below hb);have bG:=Lq7 cE;clear cE;have aW:s'.data.toList≠[]:=(by intro h;have:=Al s';rw[h] at this;simp at this;omega);have cF:=Lq7 aW;clear aW hb hr hp;go_wp2_with fail;refine bG.out.mono ?_;rintro e w2 ⟨bC,hq⟩;have bJ:Below w.heap.size w w2:=aA.out.1.trans (bC.mono aA.out.1.size);obtain⟨aW,q0,q1,z0,z1⟩:=A8 ((bC.block _ (agS.1 aA.out.2.1).1).trans aA.out.2.1);obtain⟨bU,p0,p1,y0,y1⟩:=A8 ((bC.block _ (agS.1 aA.out.2.2).1).trans aA.out.2.2);have aG:=Lq7 (aIn bJ bC);clear bJ bC bG;cases hnl:Bu s'.data.toList with
    | error n=>
     have Hf:=Lq7 (bI.out.fail cF.out hnl);have hn:=Aaq hnl;rw[hnl] at hq;obtain rfl:=hq;clear hnl;rcases hn with rfl|rfl
     ·go_wp2_with fail
      go_region
      all_goals
       go_wp2_with fail;refine bodyPost_ret (v:=.tuple #[H I 0 0,A C 2,.agg #[A C ln,A C cl]]) (by simp[results,Tryz.results15,go_sem,q0,q1,aW]) rfl ?_;rw[Hr.out,Hf.out];have aM:=(aG.out.1.setCell (p:=⟨w.heap.size,0,I⟩) (nlr _) (A C ln)).setCell (p:=⟨w.heap.size,1,I⟩) (nlr _) (A C cl)
       first|exact⟨aM.alloc aM.size _,rfl⟩|exact⟨(aM.alloc aM.size _).drew,rfl⟩
     ·go_wp2_with fail
      go_region
      all_goals
       go_wp2_with fail;refine bodyPost_ret (v:=.tuple #[H I 0 0,A C 3,.agg #[A C ln,A C cl]]) (by simp[results,Tryz.results15,go_sem,q0,q1,aW]) rfl ?_;rw[Hr.out,Hf.out];have aM:=(aG.out.1.setCell (p:=⟨w.heap.size,0,I⟩) (nlr _) (A C ln)).setCell (p:=⟨w.heap.size,1,I⟩) (nlr _) (A C cl)
       first|exact⟨aM.alloc aM.size _,rfl⟩|exact⟨(aM.alloc aM.size _).drew,rfl⟩
    | ok x=>
     have hlen:=Jd hnl;have aB:=Lq7 (bI.out.next cF.out hnl);rw[hnl] at hq;obtain⟨t,cG,rfl⟩:=hq;have cH:=Lq7 cG;obtain⟨k,ts,n⟩:=x;simp only at hlen aB cH |-;rw[Al] at hlen;clear hnl bI cG;obtain⟨W2,bD⟩:∃W2,W2=w2.alloc (J #[A C k,E t,A C ln,A C cl] 67):=⟨_,rfl⟩;have bS:Below w2.heap.size w2 W2:=(by rw[bD];exact(bRf _ w2).alloc (nlr _) _);have aE:Below wr.heap.size wr W2:=aG.out.2.trans (bS.mono aG.out.2.size);have hz2':W2.heap.size=w2.heap.size+1:=(by rw[bD];simp);by_cases hk:0<k
     ·have aN:=(hown.out.below aE).below ((bRf _ W2).alloc (nlr _) (J #[A C k,E t,A C ln,A C cl] 67));have aH:=Ko W2 (tokC ⟨k,t,ln,cl⟩) 67;rw[bD] at aN aH;rw[show(w2.alloc (J #[A C k,E t,A C ln,A C cl] 67)).heap.size=w2.heap.size+1 from by simp] at aH;have aJ:=Lq7 aN;have bA:=Lq7 aH;have bT:=Lq7 (aIn bD (aIn aE hz2'));clear aN aH bD aE hz2' bS hown
      go_wp2_with (at_builtin;refine Df rfl _ _ 56 rfl (w.heap.size+2) 67 i0 _ 4 40 Tryz.underlying56 hi hz0 hz1 hz2 rfl (by decide) v (fun b=>w.heap.size+2<=b) (acc.map N2) rfl aJ.out ⟨w2.heap.size+1,0,I⟩ 1 (N2 ⟨k,t,ln,cl⟩) (tokC ⟨k,t,ln,cl⟩) rfl rfl bA.out ?_ (tokAgg _ _ _) ?_ ?_ ?_ ?_)
      ·simp[tokC,Value.oneCell']
      ·rw[lnM];unfold maxLen;omega
      ·rw[lnM];omega
      ·have:=aG.out.1.size;simp;omega
      intro v3 w3 bB aF aY;have bL:Below w.heap.size w w3:=(((aG.out.1.alloc aG.out.1.size _).alloc (by have:=aG.out.1.size;simp;omega) _)).grown aF (by have:=aG.out.1.size;simp;omega) (fun g hg=>by have:=(aJ.out.block_lt hg).1;omega);have aQ:∀j,j<w2.heap.size->j<w.heap.size+2->w3.heap[j]? = wr.heap[j]?:=fun j hj hj2=>by
       rw[aF.block j (by simp;omega) (fun e=>by have:=(aJ.out.block_lt e.symm).1;omega),Below.heap_alloc _ _ _ (by simp;omega),Below.heap_alloc _ _ _ hj,aG.out.2.block j (by have:=aA.out.1.size;have:=(agS.1 aA.out.2.2).1;omega)]
      have aC:Hid (Below w.heap.size w w3/\w3.heap[w.heap.size]? = D (J #[A C 0,A C 0] 24 (0,0))/\w3.heap[w.heap.size+1]? = D (J #[A C ln,A C cl] 24 (0,0))):=
       Lq7 ⟨bL,(aQ _ aW (by omega)).trans aA.out.2.1,(aQ _ bU (by omega)).trans aA.out.2.2⟩
      have aD:Hid (OwnD (fun b=>w.heap.size+2<=b) w3 (w.heap.size+2) 67 4 v3 ((acc++[(⟨k,t,ln,cl⟩:Tok)]).map N2)):=Lq7 (by rw[List.map_append];exact bB);have bG:Hid (Je s.data.toList (passL (ln,cl) (s'.data.toList.take n)) (s'.data.toList.drop n) (acc++[(⟨k,t,ln,cl⟩:Tok)])):=Lq7 (by
       have h:=aB.out;rw[if_pos hk] at h;rw[show t=⟨ts.toArray⟩ from bytes_ext (by rw[cH.out])];exact h)
      clear bB aF aY bL aQ q0 q1 z0 z1 p0 p1 y0 y1 aB aJ bA bT aG aA aW bU;obtain⟨aR,p0,p1,y0,y1⟩:=A8 aC.out.2.2;have hn1:(n:Int)<=s'.size:=(by omega);have Hx1:Hid ((s'.extract 0 n).data.toList=s'.data.toList.take n):=Lq7 (by rw[Lib.extract_data];simp);have bW:Hid ((s'.extract n s'.size).data.toList=s'.data.toList.drop n):=Lq7 (Ja s' n);have bX:(s'.extract 0 n).size=n:=(by rw[ByteArray.size_extract];omega);have aU:(s'.extract n s'.size).size=s'.size-n:=(by rw[ByteArray.size_extract];omega);have aZ:(s'.data.toList.take n).length=n:=(by rw[lnT,Al];omega);have bM:=Mq (l:=s'.data.toList.take n) (m:=65537) (r:=s'.size-n) bQ bR (by rw[aZ];omega) (by rw[aZ];omega) (by rw[aZ];omega);have bN:=Lq7 (aIn bM aU);have hxs':(s'.extract 0 n).size<=65536:=(by omega);clear bX aU aZ bM;go_wp2_with fail
      go_region_with ((go_at_call 32;refine(Vd ln cl (s'.extract 0 n) _ hxs' bQ (by omega) bR (by omega)).mono ?_;rintro e w5 ⟨bE,rfl⟩;obtain⟨bY,r0,r1,x0,x1⟩:=A8 ((bE.block (w.heap.size+1) aR).trans aC.out.2.2);have aV:=Lq7 (Lx bE);clear bE))
      go_wp2_with fail;go_roundw
      case rel=>
       (repeat apply Exists.intro)
       refine⟨?_,rfl⟩;obtain⟨⟨g1,g2,g3,g4⟩,g5⟩:=bN.out;generalize passL (ln,cl) (s'.data.toList.take n)=q at *;refine⟨acc++[(⟨k,t,ln,cl⟩:Tok)],s'.extract n s'.size,q.1,q.2,_,rfl,rfl,by omega,g1,g3,by omega,by omega,by first|omega|(simp only[lnA,List.length_singleton];omega),Lq7 ?_,Lq7 ?_,Lq7 ?_⟩
       ·rw[bW.out];exact bG.out
       ·refine(aD.out.below aV.out).keep (fun b hb hF=>?_) (by simp);have bC:w.heap.size+2<=b:=by
         rcases hF with hF|hF
         ·exact hF
         ·exact((aD.out.below aV.out).block_lt hF).1
        rw[Ad (by omega),Ad (by omega)]
       ·refine⟨((aC.out.1.trans (aV.out.mono aC.out.1.size)).setCell (p:=⟨w.heap.size+1,0,I⟩) (by simp) _).setCell (p:=⟨w.heap.size+1,1,I⟩) (by simp) _,?_,?_⟩
        ·rw[Ad (by omega),Ad (by omega),aV.out.block _ (by have:=aC.out.1.size;have:=(agS.1 aC.out.2.1).1;exact this)];exact aC.out.2.1
        ·have h5:=(aV.out.block (w.heap.size+1) aR).trans aC.out.2.2;exact Af (Af h5 0 (A C q.1)) 1 (A C q.2)
      case measure=>
       have:=bN.out.2;show(s'.extract n s'.size).size<s'.size;omega
     ·have bL:Below w.heap.size w W2:=aG.out.1.trans (bS.mono aG.out.1.size);have aC:Hid (Below w.heap.size w W2/\W2.heap[w.heap.size]? = D (J #[A C 0,A C 0] 24 (0,0))/\W2.heap[w.heap.size+1]? = D (J #[A C ln,A C cl] 24 (0,0))):=
       Lq7 ⟨bL,(aE.block _ (agS.1 aA.out.2.1).1).trans aA.out.2.1,(aE.block _ (agS.1 aA.out.2.2).1).trans aA.out.2.2⟩
      have aD:=Lq7 (hown.out.below aE);have bG:Hid (Je s.data.toList (passL (ln,cl) (s'.data.toList.take n)) (s'.data.toList.drop n) acc):=Lq7 (by
       have h:=aB.out;rw[if_neg hk] at h;exact h)
      have bT:=Lq7 bD;clear bL aE hz2' bS hown bD aB aG aA;go_wp2_with fail;rw[<-bT.out];clear bT q0 q1 z0 z1 p0 p1 y0 y1 aW bU;obtain⟨aR,p0,p1,y0,y1⟩:=A8 aC.out.2.2;have hn1:(n:Int)<=s'.size:=(by omega);have Hx1:Hid ((s'.extract 0 n).data.toList=s'.data.toList.take n):=Lq7 (by rw[Lib.extract_data];simp);have bW:Hid ((s'.extract n s'.size).data.toList=s'.data.toList.drop n):=Lq7 (Ja s' n);have bX:(s'.extract 0 n).size=n:=(by rw[ByteArray.size_extract];omega);have aU:(s'.extract n s'.size).size=s'.size-n:=(by rw[ByteArray.size_extract];omega);have aZ:(s'.data.toList.take n).length=n:=(by rw[lnT,Al];omega);have bM:=Mq (l:=s'.data.toList.take n) (m:=65537) (r:=s'.size-n) bQ bR (by rw[aZ];omega) (by rw[aZ];omega) (by rw[aZ];omega);have bN:=Lq7 (aIn bM aU);have hxs':(s'.extract 0 n).size<=65536:=(by omega);clear bX aU aZ bM;skip
      go_region_with ((go_at_call 32;refine(Vd ln cl (s'.extract 0 n) _ hxs' bQ (by omega) bR (by omega)).mono ?_;rintro e w5 ⟨bE,rfl⟩;obtain⟨bY,r0,r1,x0,x1⟩:=A8 ((bE.block (w.heap.size+1) aR).trans aC.out.2.2);have aV:=Lq7 (Lx bE);clear bE))
      go_wp2_with fail;go_roundw
      case rel=>
       (repeat apply Exists.intro)
       refine⟨?_,rfl⟩;obtain⟨⟨g1,g2,g3,g4⟩,g5⟩:=bN.out;generalize passL (ln,cl) (s'.data.toList.take n)=q at *;refine⟨acc,s'.extract n s'.size,q.1,q.2,_,rfl,rfl,by omega,g1,g3,by omega,by omega,by first|omega|(simp only[lnA,List.length_singleton];omega),Lq7 ?_,Lq7 ?_,Lq7 ?_⟩
       ·rw[bW.out];exact bG.out
       ·refine(aD.out.below aV.out).keep (fun b hb hF=>?_) (by simp);have bC:w.heap.size+2<=b:=by
         rcases hF with hF|hF
         ·exact hF
         ·exact((aD.out.below aV.out).block_lt hF).1
        rw[Ad (by omega),Ad (by omega)]
       ·refine⟨((aC.out.1.trans (aV.out.mono aC.out.1.size)).setCell (p:=⟨w.heap.size+1,0,I⟩) (by simp) _).setCell (p:=⟨w.heap.size+1,1,I⟩) (by simp) _,?_,?_⟩
        ·rw[Ad (by omega),Ad (by omega),aV.out.block _ (by have:=aC.out.1.size;have:=(agS.1 aC.out.2.1).1;exact this)];exact aC.out.2.1
        ·have h5:=(aV.out.block (w.heap.size+1) aR).trans aC.out.2.2;exact Af (Af h5 0 (A C q.1)) 1 (A C q.2)
      case measure=>
       have:=bN.out.2;show(s'.extract n s'.size).size<s'.size;omega
   ·have hne:s'.toList.isEmpty=true:=by
     rw[Lq8,List.isEmpty_iff];exact List.length_eq_zero_iff.1 (by rw[Al];omega)
    obtain⟨hb,hr,hp⟩:=aA.out;obtain⟨aW,q0,q1,z0,z1⟩:=A8 hr;have Hb:=Lq7 hb;have Hst:Hid (Bt (s.data.toList.length+1) (1,1) s.data.toList = .ok acc):=Lq7 (by
     have h:=bI.out;rw[show s'.data.toList=[] from List.length_eq_zero_iff.1 (by rw[Al];omega)] at h;exact h.stop)
    obtain⟨a,cap,hva,hcap,bO⟩:=hown.out.rowAtC (fun g hg=>(hown.out.block_lt hg).1);have bZ:=Lq7 bO;have bP:=Lq7 hcap;clear hb hr hp bI bO hcap;go_wp2_with fail;refine bodyPost_ret (v:=.tuple #[H a acc.length cap,A C 0,.agg #[A C 0,A C 0]]) (by simp[results,Tryz.results15,go_sem,q0,q1]) rfl ?_;rw[Hr.out,Hst.out];have aM:=(Hb.out.setCell (p:=⟨w.heap.size,0,I⟩) (nlr _) (A C 0)).setCell (p:=⟨w.heap.size,1,I⟩) (nlr _) (A C 0);refine⟨aM,a,cap,rfl,⟨by have:=bP.out.1;simpa using this,bP.out.2⟩,bZ.out.mono fun b hb hl=>⟨by omega,by simpa using hl,?_⟩⟩;rw[Ad (by omega),Ad (by omega)]
def tokV(t:Tok):Value:=.agg #[A C t.kind,E t.text,A C t.line,A C t.col]
def PS(w:World)(bp:Nat)(en:Int×Int)(ts:List Tok)(dp:Int):Prop:=
 ∃a cap,w.heap[bp]? = D (J #[H a ts.length cap,A C en.1,A C en.2,A C dp] 65 (0,0))/\(ts.length<=cap/\ts.length<=70000)/\cap<=maxLen/\Ac (fun b=>b<bp) w a (ts.map N2)
def ptr(bp:Nat):Value:=.pointer (D ⟨bp,0,I⟩)
theorem PS.grown{w w' bp en ts dp}(h:PS w bp en ts dp)(hb:Below w.heap.size w w'):PS w' bp en ts dp:=by
 obtain⟨a,cap,h1,h2,h3,h4⟩:=h;exact⟨a,cap,(hb.block _ (agS.1 h1).1).trans h1,h2,h3,h4.below hb⟩
theorem Yd{F:Nat->Prop}{w:World}{a:Option Addr}{ts:List Tok}(h:Ac F w a (ts.map N2)){k:Nat}{t:Tok}(ht:ts[k]? = D t):
  ∃b off,a=D ⟨b,off,I⟩/\F b/\b<w.heap.size/\w.cell? ⟨b,off+k*4,I⟩=D (A C t.kind)/\w.cell? ⟨b,off+k*4+1,I⟩=D (E t.text)/\w.cell? ⟨b,off+k*4+2,I⟩=D (A C t.line)/\w.cell? ⟨b,off+k*4+3,I⟩=D (A C t.col):=by
 obtain⟨b,off,cs,ha,hF,hb,hd,hc⟩:=h k (N2 t) (by rw[lgP,ht];rfl);unfold N2 at hd hc;obtain⟨c0,cs,rfl,h0,hd⟩:=hd.cons_inv;obtain⟨c1,cs,rfl,h1,hd⟩:=hd.cons_inv;obtain⟨c2,cs,rfl,h2,hd⟩:=hd.cons_inv;obtain⟨c3,cs,rfl,h3,hd⟩:=hd.cons_inv;obtain rfl:=h0.one_inv;obtain rfl:=h1.one_inv;obtain rfl:=h2.one_inv;obtain rfl:=h3.one_inv;exact⟨b,off,ha,hF,hb,hc 0 _ rfl,hc 1 _ rfl,hc 2 _ rfl,hc 3 _ rfl⟩
def PTok(t:Tok)(w:World)(e:Ending)(w':World):Prop:=e = .returned (tokV t)/\Below w.heap.size w w'
theorem G7(bp n:Nat)(en:Int×Int)(ts dp)(w:World)(_hn:n<=1000)(hp:PS w bp en ts dp):
  Calls Tryz.prog 64 #[ptr bp,A C n] w (PTok (A1 en ts n) w):=by
 obtain⟨a,cap,h1,h2,h3,h4⟩:=hp;obtain⟨hbp,hc,hf⟩:=Ao h1;have q0:=hc 0;have q1:=hc 1;have q2:=hc 2;have q3:=hc 3;simp at q0 q1 q2 q3;clear hc hf h1;unfold maxLen at h3;unfold ptr;by_cases hlt:n<ts.length
 ·have Hd:Hid (A1 en ts n=ts[n]):=Lq7 (by unfold A1;rw[lgE hlt];rfl);obtain⟨b,off,ha,hF,hb,r0,r1,r2,r3⟩:=Yd h4 (lgE hlt);subst ha;have H4:=Lq7 h4;clear h4;generalize ts[n]=t at Hd r0 r1 r2 r3;have hlt':¬(ts.length:Int)<=(n:Int):=(by omega);go_enter Tryz.func64,Tryz.ntmps64;go_wp2_with fail;refine bodyPost_ret (v:=tokV t) (by simp[tokV,results,Tryz.results64,go_sem]) rfl ?_;rw[Hd.out];exact⟨rfl,(bRf _ _).alloc (nlr _) _⟩
 ·have Hd:Hid (A1 en ts n=⟨0,⟨#[]⟩,en.1,en.2⟩):=Lq7 (by unfold A1;rw[List.getElem?_eq_none (by omega)];rfl);have hlt':(ts.length:Int)<=(n:Int):=(by omega);clear h4;go_enter Tryz.func64,Tryz.ntmps64;go_wp2_with fail;refine bodyPost_ret (v:=tokV ⟨0,⟨#[]⟩,en.1,en.2⟩) (by simp[tokV,results,Tryz.results64,go_sem]) rfl ?_;rw[Hd.out];exact⟨rfl,(bRf _ _).alloc (nlr _) _⟩
theorem F8(a b c d w):(Instr.field 67 (.agg #[a,b,c,d]) 0).run Tryz.prog w = .ok a w:=by kernel_rfl
theorem tok_text(a b c d w):(Instr.field 67 (.agg #[a,b,c,d]) 1).run Tryz.prog w = .ok b w:=by kernel_rfl
theorem Aa6(a b c d w):(Instr.field 67 (.agg #[a,b,c,d]) 2).run Tryz.prog w = .ok (.agg #[c,d]) w:=by kernel_rfl
def Sb(b:Bool)(w:World)(e:Ending)(w':World):Prop:=e = .returned (.bool b)/\Below w.heap.size w w'
theorem Ir(bp n:Nat)(s)(en:Int×Int)(ts dp)(w:World)(hn:n<=1000)(hp:PS w bp en ts dp):
  Calls Tryz.prog 33 #[ptr bp,A C n,E s] w (Sb (Az en ts n s.data.toList) w):=by
 have Hp:=Lq7 hp;clear hp;have Hd:Hid (Az en ts n s.data.toList=((A1 en ts n).kind==4&&(A1 en ts n).text.toList==s.toList)):=Lq7 (by unfold Az;rw[Lq8,Lq8]);have aC:=Lq7 (G7 bp n en ts dp w hn Hp.out);have aA:=Lq7 (fun(w1:World) (hb:Below w.heap.size w w1)=>G7 bp n en ts dp w1 hn (Hp.out.grown hb));unfold ptr at aC aA |-;generalize A1 en ts n=t at Hd aC aA;cases hk:t.kind==4
 ·have Hk:=Lq7 hk;go_enter Tryz.func33,Tryz.ntmps33;go_wp2_with fail;refine aC.out.mono ?_;rintro e w1 ⟨rfl,aB⟩;unfold tokV;have k0:=F8;have k1:=tok_text;go_wp2_with fail;go_ret;exact⟨A0 (by rw[Hd.out,Hk.out];rfl),aB⟩
 ·have Hk:=Lq7 hk;go_enter Tryz.func33,Tryz.ntmps33;go_wp2_with fail;refine aC.out.mono ?_;rintro e w1 ⟨rfl,aB⟩;unfold tokV;have k0:=F8;have k1:=tok_text;go_wp2_with fail;refine(aA.out w1 aB).mono ?_;rintro e w2 ⟨rfl,aD⟩;unfold tokV;go_wp2_with fail;go_ret;exact⟨A0 (by rw[Hd.out,Hk.out,Bool.true_and]),aB.trans (aD.mono aB.size)⟩
theorem Mz(bp s en ts dp w)(hp:PS w bp en ts dp):
  Calls Tryz.prog 65 #[ptr bp,E s] w (Sb (A5 en ts s.data.toList) w):=by
 have Hp:=Lq7 hp;clear hp;have Hd:Hid (A5 en ts s.data.toList=((A1 en ts 0).kind==1&&(A1 en ts 0).text.toList==s.toList)):=Lq7 (by unfold A5;rw[Lq8,Lq8]);have aC:=Lq7 (G7 bp 0 en ts dp w (by omega) Hp.out);have aA:=Lq7 (fun(w1:World) (hb:Below w.heap.size w w1)=>G7 bp 0 en ts dp w1 (by omega) (Hp.out.grown hb));unfold ptr at aC aA |-;generalize A1 en ts 0=t at Hd aC aA;cases hk:t.kind==1
 ·have Hk:=Lq7 hk;go_enter Tryz.func65,Tryz.ntmps65;go_wp2_with fail;refine aC.out.mono ?_;rintro e w1 ⟨rfl,aB⟩;unfold tokV;have k0:=F8;have k1:=tok_text;go_wp2_with fail;go_ret;exact⟨A0 (by rw[Hd.out,Hk.out];rfl),aB⟩
 ·have Hk:=Lq7 hk;go_enter Tryz.func65,Tryz.ntmps65;go_wp2_with fail;refine aC.out.mono ?_;rintro e w1 ⟨rfl,aB⟩;unfold tokV;have k0:=F8;have k1:=tok_text;go_wp2_with fail;refine(aA.out w1 aB).mono ?_;rintro e w2 ⟨rfl,aD⟩;unfold tokV;go_wp2_with fail;go_ret;exact⟨A0 (by rw[Hd.out,Hk.out,Bool.true_and]),aB.trans (aD.mono aB.size)⟩
theorem N7(w:World)(t:TypeId)(zs:List ByteArray):∀j,j<zs.length->(w.alloc (.cells (zs.map Value.string).toArray t)).cell? ⟨w.heap.size,0+j,I⟩=D (E (zs.getD j ByteArray.empty)):=by
 intro j hj;unfold World.cell?;rw[heap_alloc_new,Nat.zero_add];simp[hj]
theorem Ic(zs:List (List UInt8))(s):Lib.containsS (zs.map bs) s=zs.contains s.data.toList:=by
 rw[Bool.eq_iff_iff,Lib.containsS_iff,List.contains_iff_mem,List.mem_map]
 constructor
 ·rintro⟨l,hl,rfl⟩;exact hl
 ·intro h;exact⟨_,h,bytes_ext rfl⟩
theorem M0(s w):Calls Tryz.prog 84 #[E s] w (Sb (reservedL.contains s.data.toList) w):=by
 have Hc:=Lq7 (Tryz.slices_Contains_string w.heap.size 0 6 6 (reservedL.map bs) s (w.alloc (.cells ((reservedL.map bs).map Value.string).toArray 9)) (by decide) (by omega) (N7 w 9 (reservedL.map bs)));go_enter Tryz.func84,Tryz.ntmps84;go_wp2_with fail;refine Hc.out.mono ?_;rintro e w1 ⟨rfl,rfl⟩;rw[ltL (by decide),Ic];go_wp2_with fail;go_ret;exact⟨A0 (by simp),(bRf _ w).alloc (nlr _) _⟩
theorem Ql(s w):Calls Tryz.prog 89 #[E s] w (Sb (typesL.contains s.data.toList) w):=by
 have Hc:=Lq7 (Tryz.slices_Contains_string w.heap.size 0 6 6 (typesL.map bs) s (w.alloc (.cells ((typesL.map bs).map Value.string).toArray 9)) (by decide) (by omega) (N7 w 9 (typesL.map bs)));go_enter Tryz.func89,Tryz.ntmps89;go_wp2_with fail;refine Hc.out.mono ?_;rintro e w1 ⟨rfl,rfl⟩;rw[ltL (by decide),Ic];go_wp2_with fail;go_ret;exact⟨A0 (by simp),(bRf _ w).alloc (nlr _) _⟩
theorem M1(bp en ts dp w)(hp:PS w bp en ts dp):
  Calls Tryz.prog 67 #[ptr bp] w (Sb (Bb en ts) w):=by
 have Hp:=Lq7 hp;clear hp;have Hd:Hid (Bb en ts=((A1 en ts 0).kind==1 && !reservedL.contains (A1 en ts 0).text.data.toList)):=Lq7 rfl;have aC:=Lq7 (G7 bp 0 en ts dp w (by omega) Hp.out);have aA:=Lq7 (fun(w1:World) (hb:Below w.heap.size w w1)=>G7 bp 0 en ts dp w1 (by omega) (Hp.out.grown hb));unfold ptr at aC aA |-;generalize A1 en ts 0=t at Hd aC aA;cases hk:t.kind==1
 ·have Hk:=Lq7 hk;go_enter Tryz.func67,Tryz.ntmps67;go_wp2_with fail;refine aC.out.mono ?_;rintro e w1 ⟨rfl,aB⟩;unfold tokV;have k0:=F8;have k1:=tok_text;go_wp2_with fail;go_ret;exact⟨A0 (by rw[Hd.out,Hk.out];rfl),aB⟩
 ·have Hk:=Lq7 hk;go_enter Tryz.func67,Tryz.ntmps67;go_wp2_with fail;refine aC.out.mono ?_;rintro e w1 ⟨rfl,aB⟩;unfold tokV;have k0:=F8;have k1:=tok_text;go_wp2_with fail;refine(aA.out w1 aB).mono ?_;rintro e w2 ⟨rfl,hb2⟩;unfold tokV;go_wp2_with fail;refine(M0 t.text _).mono ?_;rintro e w3 ⟨rfl,hb3⟩;have aD:=aB.trans (hb2.mono aB.size);go_wp2_with fail;go_ret;exact⟨A0 (by rw[Hd.out,Hk.out,Bool.true_and];simp),aD.trans (hb3.mono aD.size)⟩
def Ei(e l c:Int):Value:=.iface 60 (.agg #[A C e,A C l,A C c])
def PP{α:Type}(bp:Nat)(en:Int×Int)(val:α->World->Value->Prop)(r:PR α)(w:World)(e:Ending)(w':World):Prop:=
 w.grownBy w' (D bp)/\match r with
  | .ok x ts dp=>PS w' bp en ts dp/\∃v,e = .returned v/\val x w' v
  | .err a l c=>e = .panicked [{ v:=Ei a l c,recovered:=false}]
  | .out=>True
theorem Vr(bp n en ts dp w)(hp:PS w bp en ts dp):
  Calls Tryz.prog 111 #[ptr bp,A C n] w (fun e w'=>e = .panicked [{ v:=Ei n (A1 en ts 0).line (A1 en ts 0).col,recovered:=false}]/\Below w.heap.size w w'):=by
 have aA:=Lq7 (G7 bp 0 en ts dp w (by omega) hp);unfold ptr at aA |-;generalize A1 en ts 0=t at aA |-;go_enter Tryz.func111,Tryz.ntmps111;go_wp2_with fail;refine aA.out.mono ?_;rintro e w1 ⟨rfl,aB⟩;unfold tokV;have k2:=Aa6;go_wp2_with fail;exact⟨rfl,rfl,aB⟩
theorem Ac.grown{w w' bp a l}(h:Ac (fun b=>b<bp) w a l)(hg:w.grownBy w' (D bp)):Ac (fun b=>b<bp) w' a l:=
 h.mono fun b hb hl=>⟨hb,nll hl hg.size,hg.block b hl (fun e=>by cases e;omega)⟩
theorem PS.of_set{w w1:World}{bp:Nat}{en:Int×Int}{ts:List Tok}{dp:Int}{l0 e1 e2 d0:Value}{a:Option Addr}{cap:Nat}(hb:Below w.heap.size w w1)(h1:w.heap[bp]? = D (J #[l0,e1,e2,d0] 65 (0,0)))
  (he1:e1 = A C en.1) (he2:e2 = A C en.2) (hd:d0 = A C dp) (hc:ts.length<=cap/\ts.length<=70000) (hm:cap<=maxLen) (h4:Ac (fun b=>b<bp) w a (ts.map N2)) (x0 x1 x2 x3:Value) (o:Obj):
  let X:=((((((w1.setCell ⟨bp,0,I⟩ (H a ts.length cap)).setCell ⟨w.heap.size,0,I⟩ x0).setCell ⟨w.heap.size,1,I⟩ x1).setCell ⟨w.heap.size,2,I⟩ x2).setCell ⟨w.heap.size,3,I⟩ x3).alloc o)
  w.grownBy X (D bp)/\PS X bp en ts dp:=by
 intro X;have aE:=(agS.1 h1).1;have aF:bp<w1.heap.size:=nll aE hb.size;have hg:w.grownBy X (D bp):=Fq (D5 (D5 (D5 (D5 (Fb (Bc hb) _ _) (nlr _) _ _) (nlr _) _ _) (nlr _) _ _) (nlr _) _ _) o;refine⟨hg,a,cap,?_,hc,hm,h4.grown hg⟩;show((((((w1.setCell ⟨bp,0,I⟩ (H a ts.length cap)).setCell ⟨w.heap.size,0,I⟩ x0).setCell ⟨w.heap.size,1,I⟩ x1).setCell ⟨w.heap.size,2,I⟩ x2).setCell ⟨w.heap.size,3,I⟩ x3).alloc o).heap[bp]? = _;rw[Below.heap_alloc _ _ _ (by simpa using aF),Ad (by omega),Ad (by omega),Ad (by omega),Ad (by omega),Af ((hb.block bp aE).trans h1) 0 (H a ts.length cap),he1,he2,hd];rfl
def VTok(t:Tok)(_:World)(v:Value):Prop:=v=tokV t
theorem D3(bp is en ts dp w)(hp:PS w bp en ts dp)(hr:A3 en is ts dp ≠ .out):
  Calls Tryz.prog 66 #[ptr bp,.bool is] w (PP bp en VTok (A3 en is ts dp) w):=by
 cases is with
 | false=>
  have aG:A3 en false ts dp = .err 3 (A1 en ts 0).line (A1 en ts 0).col:=rfl;rw[aG];have Hf:=Lq7 (fun(w1:World) (hb:Below w.heap.size w w1)=>Vr bp 3 en ts dp w1 (hp.grown hb));unfold ptr at Hf |-;generalize A1 en ts 0=t at Hf |-;go_enter Tryz.func66,Tryz.ntmps66;go_wp2_with fail;refine(Hf.out _ ((bRf _ w).alloc (nlr _) _)).mono ?_;rintro e w1 ⟨rfl,aB⟩;exact⟨rfl,Bc (((bRf _ w).alloc (nlr _) _).trans (aB.mono (by simp))),rfl⟩
 | true=>
  cases ts with
  | nil=>exact absurd rfl hr
  | cons t r=>
   have aG:A3 en true (t::r) dp = .ok t r dp:=rfl;rw[aG];have Hp:=Lq7 hp;have aA:=Lq7 (fun(w1:World) (hb:Below w.heap.size w w1)=>G7 bp 0 en (t::r) dp w1 (by omega) (hp.grown hb));rw[show A1 en (t::r) 0=t from rfl] at aA;obtain⟨a,cap,h1,h2,h3,h4⟩:=Hp.out;obtain⟨b,off,ha,hF,hbl,-⟩:=Yd h4 (k:=0) (t:=t) rfl;subst ha;have H4:=Lq7 h4;have H1:=Lq7 h1;simp only[lnC] at h2;unfold maxLen at h3;unfold ptr at aA |-;go_enter Tryz.func66,Tryz.ntmps66;go_wp2_with fail;have aH:Below w.heap.size w (w.alloc (J #[A C 0,E ⟨#[]⟩,A C 0,A C 0] 67)):=(bRf _ w).alloc (nlr _) _;refine(aA.out _ aH).mono ?_;rintro e w1 ⟨rfl,aB⟩;have aC:=aH.trans (aB.mono aH.size);obtain⟨aE,hc,hf⟩:=Ao ((aC.block bp (agS.1 H1.out).1).trans H1.out);obtain⟨aJ,hc',hf'⟩:=Ao (Fa aB);have q0:=hc 0;have z0:=hf 0;have r0:=hc' 0;have r1:=hc' 1;have r2:=hc' 2;have r3:=hc' 3;have y0:=hf' 0;have y1:=hf' 1;have y2:=hf' 2;have y3:=hf' 3;simp at q0 r0 r1 r2 r3;have hbpw:=(agS.1 H1.out).1;have Hb:=Lq7 aC;unfold tokV;have h2':(1:Int)<=(r.length:Int)+1:=(by omega);by_cases hcap:cap=1
   ·subst hcap;have hr0:r=[]:=List.length_eq_zero_iff.1 (by omega);subst hr0;go_wp2_with fail;refine bodyPost_ret (v:=tokV t) (by simp[tokV,results,Tryz.results66,go_sem,r0,r1,r2,r3,aJ]) rfl ?_;obtain⟨g1,g2⟩:=PS.of_set (ts:=[]) (a:=D ⟨b,off,I⟩) (cap:=0) Hb.out H1.out rfl rfl rfl ⟨nlr _,nlz _⟩ (nlz _) (Ac.nil _) (A C t.kind) (E t.text) (A C t.line) (A C t.col) (J #[A C t.kind,E t.text,A C t.line,A C t.col] 67);exact⟨g1,g2,_,rfl,rfl⟩
   ·have hcap2:¬cap=1:=hcap;go_wp2_with fail;refine bodyPost_ret (v:=tokV t) (by simp[tokV,results,Tryz.results66,go_sem,r0,r1,r2,r3,aJ]) rfl ?_;have aD:Ac (fun b=>b<bp) w (D ⟨b,off+4,I⟩) (r.map N2):=by
     have:=H4.out.drop (n:=4) (fun ds hds=>by obtain⟨x,-,rfl⟩:=List.mem_map.1 hds;rfl) 1
     simpa using this
    obtain⟨g1,g2⟩:=PS.of_set (ts:=r) (a:=D ⟨b,off+4,I⟩) (cap:=cap - 1) Hb.out H1.out rfl rfl rfl (by omega) (by unfold maxLen;omega) aD (A C t.kind) (E t.text) (A C t.line) (A C t.col) (J #[A C t.kind,E t.text,A C t.line,A C t.col] 67);exact⟨g1,g2,_,rfl,rfl⟩
theorem Ap{α β}{m:PM α}{f:α->PM β}{ts ts' d d'}{x:α}(h:m ts d = .ok x ts' d'):PM.bind m f ts d=f x ts' d':=by unfold PM.bind;rw[h]
theorem G0{α β}{m:PM α}{f:α->PM β}{ts d a b c}(h:m ts d = .err a b c):PM.bind m f ts d = .err a b c:=by unfold PM.bind;rw[h]
theorem Dr{α β}{m:PM α}{f:α->PM β}{ts d}(h:m ts d = .out):PM.bind m f ts d = .out:=by unfold PM.bind;rw[h]
theorem PS.kept{w w' bp en ts dp}(h:PS w bp en ts dp)(hb:w'.heap[bp]? = w.heap[bp]?)(hk:∀b,b<bp->b<w.heap.size->w'.heap[b]? = w.heap[b]?)(hs:w.heap.size<=w'.heap.size):PS w' bp en ts dp:=by
 obtain⟨a,cap,h1,h2,h3,h4⟩:=h;exact⟨a,cap,hb.trans h1,h2,h3,h4.mono fun b hF hl=>⟨hF,nll hl hs,hk b hF hl⟩⟩
def VUnit(_:Unit)(_:World)(v:Value):Prop:=v = .tuple #[]
theorem Jy(bp s en ts dp w)(hp:PS w bp en ts dp)(hr:C2 en s.data.toList ts dp ≠ .out):
  Calls Tryz.prog 72 #[ptr bp,E s] w (PP bp en VUnit (C2 en s.data.toList ts dp) w):=by
 have Hs:=Lq7 (Ir bp 0 s en ts dp w (by omega) hp);have Ht:=Lq7 (fun(w1:World) (hb:Below w.heap.size w w1) (is:Bool) (h:A3 en is ts dp ≠ .out)=>D3 bp is en ts dp w1 (hp.grown hb) h);have He:Hid (C2 en s.data.toList ts dp=PM.bind (A3 en (Az en ts 0 s.data.toList)) (fun _=>PM.pure ()) ts dp):=Lq7 rfl;have Hr:=Lq7 hr;unfold ptr at Hs Ht |-;generalize Az en ts 0 s.data.toList=b at Hs He;go_enter Tryz.func72,Tryz.ntmps72;go_wp2_with fail;refine Hs.out.mono ?_;rintro e w1 ⟨rfl,aD⟩;have aE:A3 en b ts dp ≠ .out:=fun h=>Hr.out (by rw[He.out,Dr h]);have aB:=Lq7 (Ht.out w1 aD b aE);go_wp2_with fail;refine aB.out.mono ?_;rintro e w2 ⟨aA,hq⟩;have Hg:Hid (w.grownBy w2 (D bp)):=Lq7 (Ag (Bc aD) aA);cases hm:A3 en b ts dp with
 | out=>exact absurd (by rw[He.out,Dr hm]) Hr.out
 | err a l c=>
  rw[hm] at hq;obtain rfl:=hq;rw[He.out,G0 hm];exact⟨rfl,Hg.out,rfl⟩
 | ok x ts' d'=>
  rw[hm] at hq;obtain⟨aG,v,rfl,hv⟩:=hq;have aH:=Lq7 aG;have Hf:Hid (C2 en s.data.toList ts dp = .ok () ts' d'):=Lq7 (by rw[He.out,Ap hm];rfl);go_wp2_with fail
  go_end0
  rw[Hf.out];exact⟨Hg.out,aH.out,_,rfl,rfl⟩
theorem Aa7(bp s en ts dp w)(hd0:0<=dp)(hd1:dp<=1000)(hp:PS w bp en ts dp)(hr:Dh en s.data.toList ts dp ≠ .out):
  Calls Tryz.prog 114 #[ptr bp,E s] w (PP bp en VUnit (Dh en s.data.toList ts dp) w):=by
 have aE:C2 en s.data.toList ts dp ≠ .out:=fun h=>hr (by unfold Dh;rw[Dr h]);have aB:=Lq7 (Jy bp s en ts dp w hp aE);have hdd:∀x ts' d',C2 en s.data.toList ts dp = .ok x ts' d'->d'=dp:=by
  intro x ts' d' h;unfold C2 PM.bind A3 at h;split at h
  ·rename_i h2
   split at h2
   ·split at h2
    ·cases h2
    ·cases h2;cases h;rfl
   ·cases h2
  ·cases h
  ·cases h
 have Hdd:=Lq7 hdd;have Hne:=Lq7 aE;unfold ptr at aB |-;cases hm:C2 en s.data.toList ts dp with
 | out=>exact absurd hm Hne.out
 | err a l c=>
  have Hf:Hid (Dh en s.data.toList ts dp = .err a l c):=Lq7 (by unfold Dh;rw[G0 hm]);rw[hm] at aB;rw[Hf.out];go_enter Tryz.func114,Tryz.ntmps114;go_wp2_with fail;refine aB.out.mono ?_;rintro e w2 ⟨aA,rfl⟩;exact⟨rfl,aA,rfl⟩
 | ok x ts' d'=>
  obtain rfl:=Hdd.out _ _ _ hm;have Hf:Hid (Dh en s.data.toList ts d' = .ok () ts' (d' - 1)):=Lq7 (by unfold Dh;rw[Ap hm];rfl);rw[hm] at aB;rw[Hf.out];go_enter Tryz.func114,Tryz.ntmps114;go_wp2_with fail;refine aB.out.mono ?_;rintro e w2 ⟨aA,⟨a,cap,h1,h2,h3,h4⟩,v,rfl,-⟩;obtain⟨aJ,hc,hf⟩:=Ao h1;have q3:=hc 3;have z3:=hf 3;simp at q3;have H1:=Lq7 h1;have H4:=Lq7 h4;go_wp2_with fail
  go_end0
  refine⟨Fb aA 3 _,⟨a,cap,Af H1.out 3 _,h2,h3,H4.out.grown (Fb (Dn _ _) 3 _)⟩,_,rfl,rfl⟩
theorem Vs(bp is en ts dp w)(hd0:0<=dp)(hd1:dp<=1000)(hp:PS w bp en ts dp)(hr:Dc en is ts dp ≠ .out):
  Calls Tryz.prog 113 #[ptr bp,.bool is] w (PP bp en VTok (Dc en is ts dp) w):=by
 have aM:Below w.heap.size w (w.alloc (J #[A C 0,E ⟨#[]⟩,A C 0,A C 0] 67)):=(bRf _ w).alloc (nlr _) _;by_cases hc:is=true/\60<=dp
 ·obtain⟨rfl,hge⟩:=hc;have aN:Dc en true ts dp = .err 6 (A1 en ts 0).line (A1 en ts 0).col:=(by unfold Dc;rw[Bool.true_and,decide_eq_true hge,if_pos rfl];rfl);rw[aN];have Hf:=Lq7 (fun(w1:World) (hb:Below w.heap.size w w1)=>Vr bp 6 en ts dp w1 (hp.grown hb));obtain⟨a,cap,h1,-,-,-⟩:=hp;obtain⟨aJ,aQ,hf⟩:=Ao h1;have q3:=aQ 3;simp at q3;unfold ptr at Hf |-;generalize A1 en ts 0=t at Hf |-;go_enter Tryz.func113,Tryz.ntmps113;go_wp2_with fail;refine(Hf.out _ aM).mono ?_;rintro e w1 ⟨rfl,aD⟩;exact⟨rfl,Bc (aM.trans (aD.mono aM.size)),rfl⟩
 ·have aN:Dc en is ts dp=A3 en is ts (dp+1):=by
   unfold Dc;cases is with
   | false=>rfl
   | true=>rw[Bool.true_and,decide_eq_false (fun h=>hc ⟨rfl,h⟩)];rfl
  rw[aN] at hr |-;have Hp:=Lq7 hp;have Ht:=Lq7 (fun(w1:World) (h:PS w1 bp en ts (dp+1))=>D3 bp is en ts (dp+1) w1 h hr);obtain⟨a,cap,h1,h2,h3,h4⟩:=hp;obtain⟨aJ,aQ,hf⟩:=Ao h1;have q3:=aQ 3;have z3:=hf 3;simp at q3;have H1:=Lq7 h1;have H4:=Lq7 h4;have Hr:=Lq7 hr;have aC:is=false\/(is=true/\¬60<=dp):=by
   cases is with
   | false=>exact .inl rfl
   | true=>exact .inr ⟨rfl,fun h=>hc ⟨rfl,h⟩⟩
  unfold ptr at Ht |-;rcases aC with rfl|⟨rfl,hlt⟩
  all_goals
   go_enter Tryz.func113,Tryz.ntmps113;go_wp2_with fail;obtain⟨W3,aF⟩:∃W3,W3=(w.setCell ⟨bp,3,I⟩ (A C (dp+1))).alloc (J #[A C 0,E ⟨#[]⟩,A C 0,A C 0] 67):=⟨_,rfl⟩;rw[<-aF];have aV:w.grownBy W3 (D bp):=(by rw[aF];exact Fq (Fb (Dn w _) 3 _) _);have aR:PS W3 bp en ts (dp+1):=by
    refine⟨a,cap,?_,h2,h3,H4.out.grown aV⟩;rw[aF,Below.heap_alloc _ _ _ (by simpa using aJ)];exact Af H1.out 3 _
   have hr3:W3.heap[w.heap.size]? = D (J #[A C 0,E ⟨#[]⟩,A C 0,A C 0] 67 (0,0)):=by
    rw[aF];have:=heap_alloc_new (w.setCell ⟨bp,3,I⟩ (A C (dp+1))) (J #[A C 0,E ⟨#[]⟩,A C 0,A C 0] 67)
    simpa using this
   have aU:=Lq7 (aIn aV hr3);have Ht3:=Lq7 (Ht.out W3 aR);refine Ht3.out.mono ?_;rintro e w2 ⟨aA,hq⟩;have Hg:Hid (w.grownBy w2 (D bp)):=Lq7 (Ag aU.out.1 aA);obtain⟨hbr,hcs',hf'⟩:=Ao ((aA.block _ (agS.1 aU.out.2).1 (by intro e;cases e;omega)).trans aU.out.2);have r0:=hcs' 0;have r1:=hcs' 1;have r2:=hcs' 2;have r3:=hcs' 3;have y0:=hf' 0;have y1:=hf' 1;have y2:=hf' 2;have y3:=hf' 3;simp at r0 r1 r2 r3;cases hm:A3 en _ ts (dp+1) with
   | out=>exact absurd hm Hr.out
   | err x l c=>
    rw[hm] at hq;obtain rfl:=hq;exact⟨rfl,Hg.out,rfl⟩
   | ok x ts' d'=>
    rw[hm] at hq;obtain⟨aG,v,rfl,rfl⟩:=hq;have aH:=Lq7 aG;have Hm:=Lq7 hm;unfold tokV;go_wp2_with fail;refine bodyPost_ret (v:=tokV x) (by simp[tokV,results,Tryz.results113,go_sem,r0,r1,r2,r3]) rfl ?_;rw[Hm.out];have hbw:bp≠w.heap.size:=(by omega);have aW:∀b,b≠w.heap.size->((((w2.setCell ⟨w.heap.size,0,I⟩ (A C x.kind)).setCell ⟨w.heap.size,1,I⟩ (E x.text)).setCell ⟨w.heap.size,2,I⟩ (A C x.line)).setCell ⟨w.heap.size,3,I⟩ (A C x.col)).heap[b]? = w2.heap[b]?:=fun b hb=>by
     rw[Ad hb,Ad hb,Ad hb,Ad hb]
    exact⟨D5 (D5 (D5 (D5 Hg.out (nlr _) _ _) (nlr _) _ _) (nlr _) _ _) (nlr _) _ _,aH.out.kept (aW _ hbw) (fun b hb _=>aW b (by omega)) (by simp),_,rfl,rfl⟩
def Ka(kind:Int)(t:Tok)(text:ByteArray)(a:Option Addr)(n cap:Nat):Value:=.agg #[A C kind,E text,A C t.line,A C t.col,H a n cap]
theorem F9(kind t text a n cap w):
  Calls Tryz.prog 18 #[A C kind,tokV t,E text,H a n cap] w (fun e w'=>e = .returned (Ka kind t text a n cap)/\Below w.heap.size w w'):=by
 unfold tokV Ka;go_enter Tryz.func18,Tryz.ntmps18;go_wp2_with fail;refine bodyPost_ret (v:=Ka kind t text a n cap) (by simp[Ka,results,Tryz.results18,go_sem]) rfl ?_;exact⟨rfl,((bRf _ w).alloc (nlr _) _).alloc (by simp) _⟩
def VNode(B:Nat)(x:Nd)(w:World)(v:Value):Prop:=A7 (fun b=>B<=b) w x v
def VRow(B:Nat)(l:List Nd)(w:World)(v:Value):Prop:=∃a cap,v = H a l.length cap/\Ac (fun b=>B<=b) w a (Au l)
def VOwn(B:Nat)(l:List Nd)(w:World)(v:Value):Prop:=OwnD (fun b=>B<=b) w B 27 5 v (Au l)/\l.length<=200000
theorem VOwn.row{B l w v}(h:VOwn B l w v):VRow B l w v:=by
 obtain⟨a,cap,bE,aG⟩:=h.1.rowAt (fun g hg=>(h.1.block_lt hg).1);rw[Ah] at bE;exact⟨a,cap,bE,aG⟩
theorem PP.weaker{α bp en}{val val':α->World->Value->Prop}{r:PR α}{w w' e}(h:PP bp en val r w e w')(hv:∀x v,val x w' v->val' x w' v):PP bp en val' r w e w':=by
 refine⟨h.1,?_⟩;have h2:=h.2;cases r with
 | ok x ts dp=>obtain⟨h3,v,h4,h5⟩:=h2;exact⟨h3,v,h4,hv x v h5⟩
 | err a l c=>exact h2
 | out=>trivial
def Does{α:Type}(f bp:Nat)(en:Int×Int)(val:Nat->α->World->Value->Prop)(m:PM α):Prop:=
 ∀(w:World) (ts:List Tok) (dp:Int),PS w bp en ts dp->0<=dp->dp<=1000->m ts dp ≠ .out->Calls Tryz.prog f #[ptr bp] w (PP bp en (val w.heap.size) (m ts dp) w)
theorem PS.lt{w bp en ts dp}(h:PS w bp en ts dp):bp<w.heap.size:=let ⟨_,_,h1,_⟩:=h;(agS.1 h1).1
theorem PS.few{w bp en ts dp}(h:PS w bp en ts dp):ts.length<=70000:=let ⟨_,_,_,h2,_⟩:=h;h2.2
theorem PS.own{w w':World}{bp:Nat}{en:Int×Int}{ts:List Tok}{dp:Int}{v:Value}(h:PS w bp en ts dp)(k:w.grownBy w' v.ownBlock)(hv:∀g,v.ownBlock=D g->bp<g):PS w' bp en ts dp:=
 h.kept (k.block bp h.lt (fun e=>by have:=hv bp e.symm;omega)) (fun b hb hl=>k.block b hl (fun e=>by have:=hv b e.symm;omega)) k.size
theorem Vt(bp tt f fa lb one en ts dp w)(hd0:0<=dp)(hd1:dp<=1000)(hp:PS w bp en ts dp)(henter:∀(args:Array Value) (w:World),(callFunc f args).run Tryz.prog w = .ok (.enter f args) w)(hone:∀(w1:World) (ts1:List Tok),w.grownBy w1 (D bp)->PS w1 bp en ts1 dp->one ts1 dp ≠ .out->Calls Tryz.prog f (fa++lb) w1 (PP bp en (VRow w1.heap.size) (one ts1 dp) w1))(hinc:Inc 0 one)(hlen:∀ts d l ts' d',one ts d = .ok l ts' d'->l≠[]/\l.length<=2)(hr:Ct en tt.data.toList one ts dp ≠ .out):
  Calls Tryz.prog 115 #[ptr bp,E tt,.func (.func f) fa lb] w (PP bp en (VOwn w.heap.size) (Ct en tt.data.toList one ts dp) w):=by
 obtain⟨i0,hi,bS,bT,bU⟩:=info_parts infoNode;have hfew:=hp.few;have hbpl:=hp.lt;have Hp:=Lq7 hp;have bG:=Lq7 hone;have bH:=Lq7 hlen;have Hr:=Lq7 hr;unfold ptr;go_enter Tryz.func115,Tryz.ntmps115;go_wp2_with fail
 go_loopg [7] (ts.length+1) (fun g v wr=>∃(acc:List Nd) (ts1:List Tok) (v':Value),v=v'/\g<=ts.length+1/\acc.length+2*g<=2*(ts.length+1)/\Hid (Ct en tt.data.toList one ts dp=Ce en tt.data.toList one g acc ts1 dp)/\Hid (w.grownBy wr (D bp)/\PS wr bp en ts1 dp)/\Hid (OwnD (fun b=>w.heap.size<=b) wr w.heap.size 27 5 v' (Au acc)))
 case atStart=>exact⟨[],ts,_,rfl,nlr _,by simp,Lq7 rfl,Lq7 ⟨Dn _ _,Hp.out⟩,Lq7 (OwnD.nil _ _ _ _ _)⟩
 case round=>
  obtain⟨acc,ts1,v,hv,hg1,bD,aH,bI,hown⟩:=hrel;have hv:=hv.symm;subst hv;cases gk with
  | zero=>exact absurd aH.out Hr.out
  | succ g=>
   have Hs:=Lq7 (Ir bp 0 tt en ts1 dp wr (by omega) bI.out.2);unfold ptr at Hs;cases hb:Az en ts1 0 tt.data.toList
   ·rw[hb] at Hs;have aV:Hid (Ct en tt.data.toList one ts dp=PM.bind (if acc=[] then PM.pure () else C2 en [44]) (fun _=>PM.bind one fun l=>Ce en tt.data.toList one g (acc++l)) ts1 dp):=Lq7 (by rw[aH.out,Ce,pLook,hb];rfl);go_wp2_with fail;refine Hs.out.mono ?_;rintro e w1 ⟨rfl,aW⟩;have aE:Hid (w.grownBy w1 (D bp)/\PS w1 bp en ts1 dp):=Lq7 ⟨Ag bI.out.1 (Bc aW),bI.out.2.grown aW⟩;have aA:=Lq7 (hown.out.below aW);obtain⟨a,cap,bE,-⟩:=aA.out.rowAt (fun g hg=>(aA.out.block_lt hg).1);rw[Ah] at bE;subst bE;cases acc with
    | nil=>
     have aF:Hid (Ct en tt.data.toList one ts dp=PM.bind one (fun l=>Ce en tt.data.toList one g ([]++l)) ts1 dp):=Lq7 (by rw[aV.out,if_pos rfl];rfl);have bM:one ts1 dp ≠ .out:=fun h=>Hr.out (by rw[aF.out,Dr h]);have Ho:=Lq7 (bG.out w1 ts1 aE.out.1 aE.out.2 bM);have hws:w.heap.size<=w1.heap.size:=aE.out.1.size;go_wp2_with fail;refine Ho.out.mono ?_;rintro e w3 ⟨bJ,hq⟩;have aJ:=Lq7 (aIn (Ag aE.out.1 bJ) bJ);cases hm:one ts1 dp with
     | out=>exact absurd (by rw[aF.out,Dr hm]) Hr.out
     | err x l c=>
      rw[hm] at hq;obtain rfl:=hq;have Hf:Hid (Ct en tt.data.toList one ts dp = .err x l c):=Lq7 (by rw[aF.out,G0 hm]);refine⟨rfl,?_⟩;rw[Hf.out];exact⟨aJ.out.1,rfl⟩
     | ok l ts3 d3=>
      have bN:d3=dp:=(by have:=hinc _ _ _ _ _ hm;omega);subst bN;obtain⟨bO,hl2⟩:=bH.out _ _ _ _ _ hm;rw[hm] at hq;obtain⟨aY,v,rfl,a2,aZ,rfl,aG⟩:=hq;have bP:∃b2 aB,a2=D ⟨b2,aB,I⟩:=by
       cases l with
       | nil=>exact absurd rfl bO
       | cons n t=>
        obtain⟨b2,aB,cs,ha,-⟩:=aG 0 (nodeD n) (by rw[B7];rfl);exact⟨b2,aB,ha⟩
      obtain⟨b2,aB,rfl⟩:=bP;have bA:Hid (Ct en tt.data.toList one ts d3=Ce en tt.data.toList one g ([]++l) ts3 d3):=Lq7 (by rw[aF.out,Ap hm]);have aC:Hid (OwnD (fun b=>w.heap.size<=b) w3 w.heap.size 27 5 (H a 0 cap) (Au [])):=Lq7 (aA.out.keep (fun b hb hF=>aJ.out.2.block b hb (by
       intro e;cases e;rcases hF with hF|hF
       ·omega
       ·have:=(aA.out.block_lt hF).1;omega)) aJ.out.2.size)
      have aM:Hid (Ac (fun b=>w.heap.size<=b/\(Value.slice a 0 cap).ownBlock≠D b) w3 (D ⟨b2,aB,I⟩) (Au l)):=Lq7 (aG.wider (fun b hb _=>⟨by omega,fun e=>by have:=(aA.out.block_lt e).2;omega⟩));have bB:=Lq7 aY
      go_wp2_with (at_builtin;refine Bv rfl _ _ 25 rfl w.heap.size 27 i0 _ 5 64 Tryz.underlying25 hi bS bT bU rfl (by decide) (H a 0 cap) (fun b=>w.heap.size<=b) (Au []) rfl aC.out b2 aB aZ (Au l) ?_ aM.out (Cg Ed l) (Cg Ef l) ?_ ?_ ?_ ?_)
      ·rw[Ah];rfl
      ·rw[Ah,Ah];unfold maxLen;simp only[lnN] at bD |-;omega
      ·rw[Ah,Ah];simp only[lnN] at bD |-;omega
      ·exact aJ.out.1.size
      intro v4 w4 aN aD _;have bC:Hid (w.grownBy w4 (D bp)/\PS w4 bp en ts3 d3):=Lq7 ⟨G2 aJ.out.1 aD (fun g hg=>(aC.out.block_lt hg).1),bB.out.own aD (fun g hg=>by have:=(aC.out.block_lt hg).1;omega)⟩;have aQ:Hid (OwnD (fun b=>w.heap.size<=b) w4 w.heap.size 27 5 v4 (Au ([]++l))):=Lq7 (by rw[nodesD_append];exact aN);go_wp2_with fail
      go_roundg g
      case measure=>omega
      case rel=>exact⟨[]++l,ts3,_,rfl,by omega,by simp only[lnA,lnN] at bD |-;omega,bA,bC,aQ⟩
    | cons x0 acc0=>
     have bQ:C2 en [44] ts1 dp ≠ .out:=fun h=>Hr.out (by rw[aV.out,if_neg (by simp),Dr h]);have He:=Lq7 (Jy bp ⟨#[44]⟩ en ts1 dp w1 aE.out.2 bQ);unfold ptr at He;go_wp2_with fail;refine He.out.mono ?_;rintro e w2 ⟨bW,hq⟩;have bL:=Lq7 (aIn (Ag aE.out.1 bW) bW);cases hm:C2 en [44] ts1 dp with
     | out=>exact absurd (by rw[aV.out,if_neg (by simp),Dr hm]) Hr.out
     | err x l c=>
      rw[hm] at hq;obtain rfl:=hq;have Hf:Hid (Ct en tt.data.toList one ts dp = .err x l c):=Lq7 (by rw[aV.out,if_neg (by simp),G0 hm]);refine⟨rfl,?_⟩;rw[Hf.out];exact⟨bL.out.1,rfl⟩
     | ok u ts2 d2=>
      have hd2:d2=dp:=(by have:=Inc.eat _ _ _ _ _ _ hm;omega);subst hd2;rw[hm] at hq;obtain⟨bR,v,rfl,-⟩:=hq;have aU:=Lq7 (aIn bL.out.1 bR);have aR:Hid (OwnD (fun b=>w.heap.size<=b) w2 w.heap.size 27 5 (H a (x0::acc0).length cap) (Au (x0::acc0))):=Lq7 (aA.out.keep (fun b hb hF=>bL.out.2.block b hb (by
       intro e;cases e;rcases hF with hF|hF
       ·omega
       ·have:=(aA.out.block_lt hF).1;omega)) bL.out.2.size)
      have aF:Hid (Ct en tt.data.toList one ts d2=PM.bind one (fun l=>Ce en tt.data.toList one g ((x0::acc0)++l)) ts2 d2):=Lq7 (by rw[aV.out,if_neg (by simp),Ap hm]);have bM:one ts2 d2 ≠ .out:=fun h=>Hr.out (by rw[aF.out,Dr h]);have Ho:=Lq7 (bG.out w2 ts2 aU.out.1 aU.out.2 bM);have hws:w.heap.size<=w2.heap.size:=aU.out.1.size;go_wp2_with fail;refine Ho.out.mono ?_;rintro e w3 ⟨bJ,hq⟩;have aJ:=Lq7 (aIn (Ag aU.out.1 bJ) bJ);cases hm:one ts2 d2 with
      | out=>exact absurd (by rw[aF.out,Dr hm]) Hr.out
      | err x l c=>
       rw[hm] at hq;obtain rfl:=hq;have Hf:Hid (Ct en tt.data.toList one ts d2 = .err x l c):=Lq7 (by rw[aF.out,G0 hm]);refine⟨rfl,?_⟩;rw[Hf.out];exact⟨aJ.out.1,rfl⟩
      | ok l ts3 d3=>
       have bN:d3=d2:=(by have:=hinc _ _ _ _ _ hm;omega);subst bN;obtain⟨bO,hl2⟩:=bH.out _ _ _ _ _ hm;rw[hm] at hq;obtain⟨aY,v,rfl,a2,aZ,rfl,aG⟩:=hq;have bP:∃b2 aB,a2=D ⟨b2,aB,I⟩:=by
        cases l with
        | nil=>exact absurd rfl bO
        | cons n t=>
         obtain⟨b2,aB,cs,ha,-⟩:=aG 0 (nodeD n) (by rw[B7];rfl);exact⟨b2,aB,ha⟩
       obtain⟨b2,aB,rfl⟩:=bP;have bA:Hid (Ct en tt.data.toList one ts d3=Ce en tt.data.toList one g ((x0::acc0)++l) ts3 d3):=Lq7 (by rw[aF.out,Ap hm]);have aC:Hid (OwnD (fun b=>w.heap.size<=b) w3 w.heap.size 27 5 (H a (x0::acc0).length cap) (Au (x0::acc0))):=Lq7 (aR.out.keep (fun b hb hF=>aJ.out.2.block b hb (by
        intro e;cases e;rcases hF with hF|hF
        ·omega
        ·have:=(aR.out.block_lt hF).1;omega)) aJ.out.2.size)
       have aM:Hid (Ac (fun b=>w.heap.size<=b/\(Value.slice a (x0::acc0).length cap).ownBlock≠D b) w3 (D ⟨b2,aB,I⟩) (Au l)):=Lq7 (aG.wider (fun b hb _=>⟨by omega,fun e=>by have:=(aR.out.block_lt e).2;omega⟩));have bB:=Lq7 aY
       go_wp2_with (at_builtin;refine Bv rfl _ _ 25 rfl w.heap.size 27 i0 _ 5 64 Tryz.underlying25 hi bS bT bU rfl (by decide) (H a (x0::acc0).length cap) (fun b=>w.heap.size<=b) (Au (x0::acc0)) rfl aC.out b2 aB aZ (Au l) ?_ aM.out (Cg Ed l) (Cg Ef l) ?_ ?_ ?_ ?_)
       ·rw[Ah];rfl
       ·rw[Ah,Ah];unfold maxLen;simp only[lnC] at bD |-;omega
       ·rw[Ah,Ah];simp only[lnC] at bD |-;omega
       ·exact aJ.out.1.size
       intro v4 w4 aN aD _;have bC:Hid (w.grownBy w4 (D bp)/\PS w4 bp en ts3 d3):=Lq7 ⟨G2 aJ.out.1 aD (fun g hg=>(aC.out.block_lt hg).1),bB.out.own aD (fun g hg=>by have:=(aC.out.block_lt hg).1;omega)⟩;have aQ:Hid (OwnD (fun b=>w.heap.size<=b) w4 w.heap.size 27 5 v4 (Au ((x0::acc0)++l))):=Lq7 (by rw[nodesD_append];exact aN);go_wp2_with fail
       go_roundg g
       case measure=>omega
       case rel=>exact⟨(x0::acc0)++l,ts3,_,rfl,by omega,by simp only[lnA,lnC] at bD |-;omega,bA,bC,aQ⟩
   ·rw[hb] at Hs;have aV:Hid (Ct en tt.data.toList one ts dp = .ok acc ts1 dp):=Lq7 (by rw[aH.out,Ce,pLook,hb];rfl);go_wp2_with fail;refine Hs.out.mono ?_;rintro e w1 ⟨rfl,aW⟩;have aE:Hid (w.grownBy w1 (D bp)/\PS w1 bp en ts1 dp):=Lq7 ⟨Ag bI.out.1 (Bc aW),bI.out.2.grown aW⟩;have aA:=Lq7 (hown.out.below aW);go_wp2_with fail;go_ret;rw[aV.out];exact⟨aE.out.1,aE.out.2,_,rfl,aA.out,by omega⟩
theorem Vu(bp tt f fa lb one en ts dp w)(hd0:0<=dp)(hd1:dp<=1000)(hp:PS w bp en ts dp)(henter:∀(args:Array Value) (w:World),(callFunc f args).run Tryz.prog w = .ok (.enter f args) w)(hone:∀(w1:World) (ts1:List Tok),w.grownBy w1 (D bp)->PS w1 bp en ts1 dp->one ts1 dp ≠ .out->Calls Tryz.prog f (fa++lb) w1 (PP bp en (VRow w1.heap.size) (one ts1 dp) w1))(hinc:Inc 0 one)(hlen:∀ts d l ts' d',one ts d = .ok l ts' d'->l≠[]/\l.length<=2)(hr:Ct en tt.data.toList one ts dp ≠ .out):
  Calls Tryz.prog 115 #[ptr bp,E tt,.func (.func f) fa lb] w (PP bp en (VRow w.heap.size) (Ct en tt.data.toList one ts dp) w):=
 (Vt bp tt f fa lb one en ts dp w hd0 hd1 hp henter hone hinc hlen hr).mono fun _ _ h=>PP.weaker h fun _ _ hv=>hv.row
def zeroNode:Array Value:=#[A C 0,E ⟨#[]⟩,A C 0,A C 0,H I 0 0]
def Locs(w:World)(ls:List (Nat×Array Value×TypeId)):Prop:=∀x∈ls,w.heap[x.1]? = D (.cells x.2.1 x.2.2 (0,0))
structure PI(w:World)(bp:Nat)(en:Int×Int)(ts:List Tok)(dp:Int)(ls:List (Nat×Array Value×TypeId))(rows:List (Option Addr×List Nd))(W:World):Prop where
 grown:w.grownBy W (D bp)
 ps:PS W bp en ts dp
 locs:Locs W ls
 own:∀x∈ls,w.heap.size<=x.1
 bpl:bp<w.heap.size
 rows:∀r∈rows,Ac (fun b=>w.heap.size<=b/\∀x∈ls,b≠x.1) W r.1 (Au r.2)
 dist:(ls.map (·.1)).Nodup
section
variable {w W W':World} {bp:Nat} {en:Int×Int} {ts ts':List Tok} {dp dp':Int} {ls:List (Nat×Array Value×TypeId)} {rows:List (Option Addr×List Nd)}
theorem PI.start(h:PS w bp en ts dp):PI w bp en ts dp [] [] w:=⟨Dn _ _,h,(by intro x hx;cases hx),(by intro x hx;cases hx),h.lt,(by intro x hx;cases hx),.nil⟩
theorem Locs.lt(h:Locs W ls){x:Nat×Array Value×TypeId}(hx:x∈ls):x.1<W.heap.size:=(agS.1 (h x hx)).1
theorem PI.below(h:PI w bp en ts dp ls rows W)(hb:Below W.heap.size W W'):PI w bp en ts dp ls rows W':=
 ⟨Ag h.grown (Bc hb),h.ps.grown hb,fun x hx=>(hb.block _ (h.locs.lt hx)).trans (h.locs x hx),h.own,h.bpl,fun r hr=>(h.rows r hr).below hb,h.dist⟩
theorem PI.alloc(h:PI w bp en ts dp ls rows W)(cs:Array Value)(T:TypeId):PI w bp en ts dp ((W.heap.size,cs,T)::ls) rows (W.alloc (.cells cs T)):=by
 obtain⟨h1,h2,h3,h4,h5,h6,h8⟩:=h.below ((bRf _ W).alloc (nlr _) (.cells cs T));refine⟨h1,h2,fun x hx=>?_,fun x hx=>?_,h5,fun r hr=>?_,List.nodup_cons.2 ⟨fun hx=>?_,h8⟩⟩
 ·rcases List.mem_cons.1 hx with rfl|hx
  ·exact heap_alloc_new W _
  ·exact h3 x hx
 ·rcases List.mem_cons.1 hx with rfl|hx
  ·exact h.grown.size
  ·exact h4 x hx
 ·have h7:=(h.rows r hr).here;refine(h7.below ((bRf _ W).alloc (nlr _) (.cells cs T))).wider (fun b hb _=>⟨hb.1.1,fun x hx=>?_⟩);rcases List.mem_cons.1 hx with rfl|hx
  ·exact Nat.ne_of_lt hb.2
  ·exact hb.1.2 x hx
 ·obtain⟨x,hx,e⟩:=List.mem_map.1 hx;have h9:=h.locs.lt hx;have h10:x.1=W.heap.size:=e;omega
theorem PI.call(h:PI w bp en ts dp ls rows W)(hg:W.grownBy W' (D bp))(hp:PS W' bp en ts' dp'):PI w bp en ts' dp' ls rows W':=
 ⟨Ag h.grown hg,hp,fun x hx=>(hg.block _ (h.locs.lt hx) (fun e=>by cases e;have:=h.own x hx;have:=h.bpl;omega)).trans (h.locs x hx),h.own,h.bpl,
  fun r hr=>(h.rows r hr).mono fun b hb hl=>⟨hb,nll hl hg.size,hg.block b hl (fun e=>by cases e;have:=h.bpl;omega)⟩,h.dist⟩
theorem PI.row{B:Nat}{a:Option Addr}{l:List Nd}(h:PI w bp en ts dp ls rows W)(hrow:Ac (fun b=>B<=b) W a (Au l))(hw:w.heap.size<=B)(hB:∀x∈ls,x.1<B):PI w bp en ts dp ls ((a,l)::rows) W:=
 ⟨h.grown,h.ps,h.locs,h.own,h.bpl,fun r hr=>by
  rcases List.mem_cons.1 hr with rfl|hr
  ·exact hrow.wider (fun b hb _=>⟨by omega,fun x hx e=>by have:=hB x hx;omega⟩)
  ·exact h.rows r hr,h.dist⟩
theorem PI.at(h:PI w bp en ts dp ls rows W){b:Nat}{cs:Array Value}{T:TypeId}(hx:(b,cs,T)∈ls):W.heap[b]? = D (.cells cs T (0,0)):=h.locs _ hx
theorem PI.lt(h:PI w bp en ts dp ls rows W):∀x∈ls,x.1<W.heap.size:=fun _ hx=>h.locs.lt hx
theorem PI.drew(h:PI w bp en ts dp ls rows W):PI w bp en ts dp ls rows W.drew:=h.below ((bRf _ W).drew)
theorem PI.set(h:PI w bp en ts dp ls rows W)(j:Nat){b:Nat}{cs:Array Value}{T:TypeId}(hj:ls[j]? = D (b,cs,T))(i:Nat)(v:Value):PI w bp en ts dp (ls.set j (b,cs.setIfInBounds i v,T)) rows (W.setCell ⟨b,i,I⟩ v):=by
 have hm:(b,cs,T)∈ls:=lgM hj;have hb:w.heap.size<=b:=h.own _ hm;have hbp:=h.bpl;have hX:∀k,k≠b->(W.setCell ⟨b,i,I⟩ v).heap[k]? = W.heap[k]?:=fun k hk=>Ad hk i v;have aA:∀x∈ls.set j (b,cs.setIfInBounds i v,T),x=(b,cs.setIfInBounds i v,T)\/(x∈ls/\x.1≠b):=fun x hx=>by
  obtain⟨k,hk⟩:=List.mem_iff_getElem?.1 hx;rw[List.getElem?_set] at hk;split at hk
  ·split at hk
   ·exact .inl (Option.some.inj hk).symm
   ·cases hk
  ·rename_i hne
   refine .inr ⟨lgM hk,fun e=>hne ?_⟩;have aB:=(lgS.1 hj).1;have hkl:=(lgS.1 hk).1;refine(List.getElem_inj (h₀:=by simpa using aB) (h₁:=by simpa using hkl) h.dist).1 ?_;have h1:=(lgS.1 hj).2;have h2:=(lgS.1 hk).2;simp only[List.getElem_map,h1,h2,e]
 have aC:(ls.set j (b,cs.setIfInBounds i v,T)).map (·.1)=ls.map (·.1):=by
  rw[List.map_set];refine List.ext_getElem? fun k=>?_;rw[List.getElem?_set];split
  ·rename_i e
   subst e;rw[lgP,hj];simp[(lgS.1 hj).1]
  ·rfl
 refine⟨D5 h.grown hb i v,h.ps.kept (hX _ (by omega)) (fun k hk _=>hX k (by omega)) (by simp),fun x hx=>?_,fun x hx=>?_,hbp,fun r hr=>?_,by rw[aC];exact h.dist⟩
 ·rcases aA x hx with rfl|⟨hx,hne⟩
  ·exact Af (h.locs _ hm) i v
  ·rw[hX _ hne];exact h.locs x hx
 ·rcases aA x hx with rfl|⟨hx,hne⟩
  ·exact hb
  ·exact h.own x hx
 ·refine(h.rows r hr).mono fun k hk hl=>⟨⟨hk.1,fun x hx=>?_⟩,by simpa using hl,hX k (hk.2 _ hm)⟩;rcases aA x hx with rfl|⟨hx,hne⟩
  ·exact hk.2 (b,cs,T) hm
  ·exact hk.2 x hx
theorem PI.put5(h:PI w bp en ts dp ls rows W)(j:Nat){b:Nat}{x0 x1 x2 x3 x4:Value}{T:TypeId}(hj:ls[j]? = D (b,#[x0,x1,x2,x3,x4],T))(v0 v1 v2 v3 v4:Value):
  PI w bp en ts dp (ls.set j (b,#[v0,v1,v2,v3,v4],T)) rows (((((W.setCell ⟨b,0,I⟩ v0).setCell ⟨b,1,I⟩ v1).setCell ⟨b,2,I⟩ v2).setCell ⟨b,3,I⟩ v3).setCell ⟨b,4,I⟩ v4):=by
 have aB:=(lgS.1 hj).1;have h1:=h.set j hj 0 v0;have h2:=h1.set j (b:=b) (cs:=#[v0,x1,x2,x3,x4]) (T:=T) (by rw[List.getElem?_set_self aB];rfl) 1 v1;rw[List.set_set] at h2;have h3:=h2.set j (b:=b) (cs:=#[v0,v1,x2,x3,x4]) (T:=T) (by rw[List.getElem?_set_self aB];rfl) 2 v2;rw[List.set_set] at h3;have h4:=h3.set j (b:=b) (cs:=#[v0,v1,v2,x3,x4]) (T:=T) (by rw[List.getElem?_set_self aB];rfl) 3 v3;rw[List.set_set] at h4;have h5:=h4.set j (b:=b) (cs:=#[v0,v1,v2,v3,x4]) (T:=T) (by rw[List.getElem?_set_self aB];rfl) 4 v4;rw[List.set_set] at h5;exact h5
theorem PI.less{l2:List (Nat×Array Value×TypeId)}{r2:List (Option Addr×List Nd)}(h:PI w bp en ts dp ls rows W)(h1:l2.Sublist ls)(h2:∀r∈r2,r∈rows):PI w bp en ts dp l2 r2 W:=
 ⟨h.grown,h.ps,fun x hx=>h.locs x (h1.subset hx),fun x hx=>h.own x (h1.subset hx),h.bpl,fun r hr=>(h.rows r (h2 r hr)).wider (fun _ hb _=>⟨hb.1,fun x hx=>hb.2 x (h1.subset hx)⟩),(h1.map _).nodup h.dist⟩
theorem PI.hand(h:PI w bp en ts dp ls rows W){a:Option Addr}{l:List Nd}(hr:(a,l)∈rows):Ac (fun b=>w.heap.size<=b) W a (Au l):=(h.rows (a,l) hr).wider (fun _ hb _=>hb.1)
end
theorem I4{F:Nat->Prop}{w:World}(k:Int)(t:ByteArray)(l c:Int){kids:List Nd}{a:Option Addr}(cap:Nat)(h:Ac F w a (Au kids))(hk:F5 k=true->kids.length<=cap:=by first|exact trivial|(refine Hid.out ?_;assumption)|assumption|(intro _;exact Nat.zero_le _)|(intro h6;exact absurd h6 (by decide))):
  Ai F w (nodeD (.mk k t l c kids)) [A C k,E t,A C l,A C c,H a kids.length cap]:=by
 rw[nodeD];exact .cons (.one _) (.cons (.one _) (.cons (.one _) (.cons (.one _) (.cons (by rw[<-Ah kids];exact D7.rowb_mk cap (fun h6=>by rw[Ah];exact hk h6) h) .nil))))
theorem Ac.lit{F}{w:World}{b size:Nat}{T cs}(css:List (List Value)){l:List (List Dat)}(hb:w.heap[b]? = D (.cells cs T (0,0)))(hcs:cs.toList=css.flatten)(hF:F b)(hsz:∀c∈css,c.length=size)(hlen:css.length=l.length)(hd:∀(j:Nat) ds c,l[j]? = D ds->css[j]? = D c->Ai F w ds c):Ac F w (D ⟨b,0,I⟩) l:=by
 intro j ds hj;have aB:=(lgS.1 hj).1;have aD:css[j]? = D (css[j]'(by omega)):=lgE _;have ha:=hd j ds _ hj aD;refine⟨b,0,_,rfl,hF,(agS.1 hb).1,ha,fun i u hu=>?_⟩;have h9:=Fy hsz aD hu;rw[<-hcs,Array.getElem?_toList] at h9;unfold World.cell?;rw[hb,Nat.zero_add,<-ha.1,hsz _ (lgM aD)];exact h9
def CapOk:List (List Value)->List Nd->Prop
 | [_,_,_,_,H _ _ cap]::css,.mk k _ _ _ kids::l=>(F5 k=true->kids.length<=cap)/\CapOk css l
 | _,_=>True
theorem CapOk.get:∀{css:List (List Value)} {l:List Nd} {j:Nat} {k ln cl:Int} {t:ByteArray} {kids:List Nd} {c0 c1 c2 c3:Value} {a:Option Addr} {n cap:Nat},CapOk css l->l[j]? = D (.mk k t ln cl kids)->css[j]? = D [c0,c1,c2,c3,H a n cap]->(∀(i:Nat) (c:List Value) (x:Nd),css[i]? = D c->l[i]? = D x->∃d0 d1 d2 d3 b m e,c=[d0,d1,d2,d3,Value.slice b m e])->F5 k=true->kids.length<=cap
 | [],_,_,_,_,_,_,_,_,_,_,_,_,_,_,_,_,hc,_=>by simp at hc
 | _::_,[],_,_,_,_,_,_,_,_,_,_,_,_,_,_,hl,_,_=>by simp at hl
 | c::css,x::l,j,_,_,_,_,_,_,_,_,_,_,_,_,h,hl,hc,hall=>by
  obtain⟨d0,d1,d2,d3,b,m,e,rfl⟩:=hall 0 c x rfl rfl;obtain⟨xk,xt,xl,xc,xs⟩:=x;rw[CapOk] at h;cases j with
  | zero=>
   simp at hl hc;obtain⟨rfl,rfl,rfl,rfl,rfl⟩:=hl;obtain⟨-,-,-,-,-,-,rfl⟩:=hc;exact h.1
  | succ j=>exact CapOk.get h.2 (by simpa using hl) (by simpa using hc) (fun i c x h1 h2=>hall (i+1) c x (by simpa using h1) (by simpa using h2))
theorem PI.lit{w W:World}{bp:Nat}{en:Int×Int}{ts:List Tok}{dp:Int}{ls:List (Nat×Array Value×TypeId)}{rows:List (Option Addr×List Nd)}(h:PI w bp en ts dp ls rows W)(T:TypeId){cs:Array Value}(css:List (List Value))(l:List Nd)(hcs:cs.toList=css.flatten)
  (hsz:∀c∈css,c.length=5) (hlen:css.length=l.length)
  (hd:∀(j:Nat) n c,l[j]? = D n->css[j]? = D c->∃k t ln cl kids a cap,n = .mk k t ln cl kids/\c=[A C k,E t,A C ln,A C cl,H a kids.length cap]/\((a,kids)∈rows\/kids=[])) (hcp:CapOk css l:=by(repeat' (first|exact trivial|refine And.intro ?_ ?_))<;>first|(refine Hid.out ?_;assumption)|assumption|(intro _;exact Nat.zero_le _)|(intro h6;exact absurd h6 (by decide))):
  PI w bp en ts dp ls ((D ⟨W.heap.size,0,I⟩,l)::rows) (W.alloc (.cells cs T)):=by
 have hb:=h.below ((bRf _ W).alloc (nlr _) (.cells cs T));refine⟨hb.grown,hb.ps,hb.locs,hb.own,hb.bpl,fun r hr=>?_,hb.dist⟩;rcases List.mem_cons.1 hr with rfl|hr
 ·refine Ac.lit (size:=5) css (heap_alloc_new W _) hcs ⟨h.grown.size,fun x hx=>Nat.ne_of_gt (h.locs.lt hx)⟩ hsz (by rw[Ah];exact hlen) (fun j ds c hj hc=>?_);simp only[B7,lgP,Option.map_eq_some_iff] at hj;obtain⟨n,hn,rfl⟩:=hj;have hcap:=fun k t ln cl kids c0 c1 c2 c3 a n' cap (h1:n = .mk k t ln cl kids) (h2:c=[c0,c1,c2,c3,H a n' cap])=>CapOk.get hcp (hn.trans (congrArg D h1)) (hc.trans (congrArg D h2)) (fun i c' x' h3 h4=>by obtain⟨k,t,ln,cl,kids,a,cap,-,rfl,-⟩:=hd i x' c' h4 h3;exact⟨_,_,_,_,_,_,_,rfl⟩);obtain⟨k,t,ln,cl,kids,a,cap,rfl,rfl,hr|rfl⟩:=hd j n c hn hc
  ·exact I4 _ _ _ _ cap (hb.rows _ hr) (hcap _ _ _ _ _ _ _ _ _ _ _ _ rfl rfl)
  ·exact I4 _ _ _ _ cap (Ac.nil _)
 ·exact hb.rows r hr
theorem Dl{α β:Type}{f:FuncId}{args:Array Value}{W:World}{Q:Ending->World->Prop}{bp:Nat}{en:Int×Int}{val:α->World->Value->Prop}{m:PM α}{k:α->PM β}{ts:List Tok}{dp:Int}{full:PR β}{d:Int}(nd:Int)
  (Hc:Hid (Calls Tryz.prog f args W (PP bp en val (m ts dp) W))) (Hr:Hid (full ≠ .out)) (Hsp:Hid (full=PM.bind m k ts dp)) (hi:Inc d m) (hd:nd=dp+d)
  (herr:∀{a l c w'},W.grownBy w' (D bp)->full = .err a l c->Q (.panicked [{ v:=Ei a l c,recovered:=false}]) w')
  (hok:∀x ts' w' v,m ts dp = .ok x ts' nd->W.grownBy w' (D bp)->PS w' bp en ts' nd->val x w' v->Hid (full=k x ts' nd)->Q (.returned v) w'):Calls Tryz.prog f args W Q:=by
 refine Hc.out.mono ?_;rintro e w' ⟨hg,hq⟩;cases hm:m ts dp with
 | out=>exact absurd (Hsp.out.trans (Dr hm)) Hr.out
 | err a l c=>
  rw[hm] at hq;obtain rfl:e=_:=hq;exact herr hg (Hsp.out.trans (G0 hm))
 | ok x ts' dq=>
  obtain rfl:nd=dq:=(by have:=hi _ _ _ _ _ hm;omega);rw[hm] at hq;obtain⟨hps,v,rfl,hv⟩:=hq;exact hok x ts' w' v hm hg hps hv (Lq7 (Hsp.out.trans (Ap hm)))
theorem Ga{α β}{m:PM α}{k:α->PM β}{ts dp}{full:PR β}(Hr:Hid (full ≠ .out))(Hsp:Hid (full=PM.bind m k ts dp)):m ts dp ≠ .out:=fun h=>Hr.out (Hsp.out.trans (Dr h))
theorem Fr{f:FuncId}{args}{W:World}{Q:Ending->World->Prop}{X}{R:World->Prop}(Hc:Hid (Calls Tryz.prog f args W (fun e w'=>e = .returned X/\Below W.heap.size W w')))(hb:∀{w'},Below W.heap.size W w'->R w')(h:∀w',Hid (R w')->Q (.returned X) w'):Calls Tryz.prog f args W Q:=by
 refine Hc.out.mono ?_;rintro e w' ⟨rfl,hw⟩;exact h w' (Lq7 (hb hw))
theorem Sc(bp tt en L)(hL:I0 L)(hx:Does 34 bp en VNode L.stmt)(w ts dp)(hp:PS w bp en ts dp)(hd0:0<=dp)(hd1:dp<=1000)(hr:Cp en L tt.data.toList ts dp ≠ .out):
  Calls Tryz.prog 19 #[ptr bp,E tt] w (PP bp en (VRow w.heap.size) (Cp en L tt.data.toList ts dp) w):=by
 obtain⟨i0,hi,bO,bP,bQ⟩:=info_parts infoNode;have hfew:=hp.few;have hbpl:=hp.lt;have Hp:=Lq7 hp;have Hx:=Lq7 hx;have Hr:=Lq7 hr;unfold ptr;go_enter Tryz.func19,Tryz.ntmps19;go_wp2_with fail
 go_loopg [5] (ts.length+1) (fun g v wr=>∃(acc:List Nd) (bI:List Tok) (v':Value),v=v'/\g<=ts.length+1/\acc.length+g<=ts.length+1/\Hid (Cp en L tt.data.toList ts dp=Cj en L tt.data.toList g acc bI dp)/\Hid (w.grownBy wr (D bp)/\PS wr bp en bI dp)/\Hid (OwnD (fun b=>w.heap.size<=b) wr w.heap.size 27 5 v' (Au acc)))
 case atStart=>exact⟨[],ts,_,rfl,nlr _,by simp,Lq7 rfl,Lq7 ⟨Dn _ _,Hp.out⟩,Lq7 (OwnD.nil _ _ _ _ _)⟩
 case round=>
  obtain⟨acc,bI,v,hv,hg1,bE,aE,aV,hown⟩:=hrel;have hv:=hv.symm;subst hv;cases gk with
  | zero=>exact absurd aE.out Hr.out
  | succ g=>
   obtain⟨ab,capb,aY,hb2,hb3,hb4⟩:=aV.out.2;obtain⟨q0,q1,q2,q3,q4⟩:=B3 aY;cases bI with
   | nil=>
    have aJ:Hid (Cp en L tt.data.toList ts dp = .ok acc [] dp):=Lq7 (by rw[aE.out];rfl);go_wp2_with fail;go_ret;rw[aJ.out];obtain⟨a,cap,aM,aG⟩:=hown.out.rowAt (fun g hg=>(hown.out.block_lt hg).1);rw[Ah] at aM;exact⟨aV.out.1,aV.out.2,_,rfl,a,cap,aM,aG⟩
   | cons t0 r0=>
    have bR:=Lq7 (Lq8 tt);cases htt:tt.toList.isEmpty
    ·have bJ:tt.data.toList.isEmpty=false:=(by rw[<-bR.out];exact htt);cases hb:Az en (t0::r0) 0 tt.data.toList
     ·have aJ:Hid (Cp en L tt.data.toList ts dp=PM.bind L.stmt (fun x=>Cj en L tt.data.toList g (acc++[x])) (t0::r0) dp):=Lq7 (by rw[aE.out,Cj,pLook];simp only[hb,bJ];rfl);have Hs:=Lq7 (Ir bp 0 tt en (t0::r0) dp wr (by omega) aV.out.2);unfold ptr at Hs;rw[hb] at Hs;go_wp2_with fail;refine Hs.out.mono ?_;rintro e w1 ⟨rfl,aY⟩;have aW:Hid (w.grownBy w1 (D bp)/\PS w1 bp en (t0::r0) dp):=Lq7 ⟨Ag aV.out.1 (Bc aY),aV.out.2.grown aY⟩;have aA:=Lq7 (hown.out.below aY);have bL:L.stmt (t0::r0) dp ≠ .out:=fun h=>Hr.out (by rw[aJ.out,Dr h]);have Ho:=Lq7 (Hx.out _ _ _ aW.out.2 hd0 hd1 bL);unfold ptr at Ho;have hws:w.heap.size<=w1.heap.size:=aW.out.1.size;go_wp2_with fail;refine Ho.out.mono ?_;rintro e w3 ⟨bG,hq⟩;have aN:=Lq7 (aIn (Ag aW.out.1 bG) bG);cases hm:L.stmt (t0::r0) dp with
      | out=>exact absurd (by rw[aJ.out,Dr hm]) Hr.out
      | err x l c=>
       rw[hm] at hq;obtain rfl:=hq;have Hf:Hid (Cp en L tt.data.toList ts dp = .err x l c):=Lq7 (by rw[aJ.out,G0 hm]);refine⟨rfl,?_⟩;rw[Hf.out];exact⟨aN.out.1,rfl⟩
      | ok x ts3 d3=>
       have bM:d3=dp:=(by have:=hL.stmt _ _ _ _ _ hm;omega);subst bM;rw[hm] at hq;have aZ:Hid (Cp en L tt.data.toList ts d3=Cj en L tt.data.toList g (acc++[x]) ts3 d3):=Lq7 (by rw[aJ.out,Ap hm]);obtain⟨xk,xt,xl,xc,xs⟩:=x;obtain⟨bA,v1,rfl,bH⟩:=hq;obtain⟨a1,aB,rfl,aG⟩:=A7.open bH;have bB:=Lq7 (A7.cap bH);obtain⟨a,cap,aM,-⟩:=aA.out.rowAt (fun g hg=>(aA.out.block_lt hg).1);rw[Ah] at aM;subst aM;have aF:Hid (OwnD (fun b=>w.heap.size<=b) w3 w.heap.size 27 5 (H a acc.length cap) (Au acc)):=Lq7 (aA.out.keep (fun b hb hF=>aN.out.2.block b hb (by
        intro e;cases e;rcases hF with hF|hF
        ·omega
        ·have:=(aA.out.block_lt hF).1;omega)) aN.out.2.size)
       have h5:=heap_alloc_new w3 (J #[A C xk,E xt,A C xl,A C xc,H a1 xs.length aB] 27);have bC:Below w3.heap.size w3 (w3.alloc (J #[A C xk,E xt,A C xl,A C xc,H a1 xs.length aB] 27)):=(bRf _ w3).alloc (nlr _) _;have aQ:Hid (Ac (fun b=>w.heap.size<=b/\(Value.slice a acc.length cap).ownBlock≠D b) (w3.alloc (J #[A C xk,E xt,A C xl,A C xc,H a1 xs.length aB] 27)) (D ⟨w3.heap.size,0,I⟩) (Au [.mk xk xt xl xc xs])):=Lq7 (by
        refine Ac.lit (size:=5) [[A C xk,E xt,A C xl,A C xc,H a1 xs.length aB]] h5 rfl ⟨aN.out.1.size,fun e=>by have:=(aF.out.block_lt e).2;omega⟩ (by simp) (by simp[Au]) (fun j ds c hj hc=>?_);have bN:=(lgS.1 hc).1;simp only[lnC,lnN] at bN;obtain rfl:j=0:=(by omega);simp[Au] at hj hc;subst hj hc;exact I4 _ _ _ _ aB ((aG.below bC).wider (fun b hb _=>⟨by omega,fun e=>by have:=(aA.out.block_lt e).2;omega⟩)))
       have aC:=Lq7 (aF.out.below ((bRf _ w3).alloc (nlr _) (J #[A C xk,E xt,A C xl,A C xc,H a1 xs.length aB] 27)));have aH:=Lq7 (aIn (Ag aN.out.1 (Bc bC)) (bA.grown bC))
       go_wp2_with (at_builtin;refine Bv rfl _ _ 25 rfl w.heap.size 27 i0 _ 5 64 Tryz.underlying25 hi bO bP bQ rfl (by decide) (H a acc.length cap) (fun b=>w.heap.size<=b) (Au acc) rfl aC.out w3.heap.size 0 1 (Au [.mk xk xt xl xc xs]) ?_ aQ.out (Cg Ed _) (Cg Ef _) ?_ ?_ ?_ ?_)
       ·rw[Ah];rfl
       ·rw[Ah,Ah];unfold maxLen;simp only[lnC,lnN] at bE |-;omega
       ·rw[Ah,Ah];simp only[lnC,lnN] at bE |-;omega
       ·exact aH.out.1.size
       intro v4 w4 aR aD _;have bD:Hid (w.grownBy w4 (D bp)/\PS w4 bp en ts3 d3):=Lq7 ⟨G2 aH.out.1 aD (fun g hg=>(aC.out.block_lt hg).1),aH.out.2.own aD (fun g hg=>by have:=(aC.out.block_lt hg).1;omega)⟩;have aU:Hid (OwnD (fun b=>w.heap.size<=b) w4 w.heap.size 27 5 v4 (Au (acc++[.mk xk xt xl xc xs]))):=Lq7 (by rw[nodesD_append];exact aR);go_wp2_with fail
       go_roundg g
       case measure=>omega
       case rel=>exact⟨acc++[.mk xk xt xl xc xs],ts3,_,rfl,by omega,by simp only[lnA,lnC,lnN] at bE |-;omega,aZ,bD,aU⟩
     ·have aJ:Hid (Cp en L tt.data.toList ts dp = .ok acc (t0::r0) dp):=Lq7 (by rw[aE.out,Cj,pLook];simp only[hb,bJ];rfl);have Hs:=Lq7 (Ir bp 0 tt en (t0::r0) dp wr (by omega) aV.out.2);unfold ptr at Hs;rw[hb] at Hs;go_wp2_with fail;refine Hs.out.mono ?_;rintro e w1 ⟨rfl,aY⟩;have aW:Hid (w.grownBy w1 (D bp)/\PS w1 bp en (t0::r0) dp):=Lq7 ⟨Ag aV.out.1 (Bc aY),aV.out.2.grown aY⟩;have aA:=Lq7 (hown.out.below aY);go_wp2_with fail;go_ret;rw[aJ.out];obtain⟨a,cap,aM,aG⟩:=aA.out.rowAt (fun g hg=>(aA.out.block_lt hg).1);rw[Ah] at aM;exact⟨aW.out.1,aW.out.2,_,rfl,a,cap,aM,aG⟩
    ·have bJ:tt.data.toList.isEmpty=true:=(by rw[<-bR.out];exact htt);have aJ:Hid (Cp en L tt.data.toList ts dp=PM.bind L.stmt (fun x=>Cj en L tt.data.toList g (acc++[x])) (t0::r0) dp):=Lq7 (by rw[aE.out,Cj,pLook];simp only[bJ,Bool.true_or];rfl);have aW:=aV;have aA:=hown;have bL:L.stmt (t0::r0) dp ≠ .out:=fun h=>Hr.out (by rw[aJ.out,Dr h]);have Ho:=Lq7 (Hx.out _ _ _ aW.out.2 hd0 hd1 bL);unfold ptr at Ho;have hws:w.heap.size<=wr.heap.size:=aW.out.1.size;go_wp2_with fail;refine Ho.out.mono ?_;rintro e w3 ⟨bG,hq⟩;have aN:=Lq7 (aIn (Ag aW.out.1 bG) bG);cases hm:L.stmt (t0::r0) dp with
     | out=>exact absurd (by rw[aJ.out,Dr hm]) Hr.out
     | err x l c=>
      rw[hm] at hq;obtain rfl:=hq;have Hf:Hid (Cp en L tt.data.toList ts dp = .err x l c):=Lq7 (by rw[aJ.out,G0 hm]);refine⟨rfl,?_⟩;rw[Hf.out];exact⟨aN.out.1,rfl⟩
     | ok x ts3 d3=>
      have bM:d3=dp:=(by have:=hL.stmt _ _ _ _ _ hm;omega);subst bM;rw[hm] at hq;have aZ:Hid (Cp en L tt.data.toList ts d3=Cj en L tt.data.toList g (acc++[x]) ts3 d3):=Lq7 (by rw[aJ.out,Ap hm]);obtain⟨xk,xt,xl,xc,xs⟩:=x;obtain⟨bA,v1,rfl,bH⟩:=hq;obtain⟨a1,aB,rfl,aG⟩:=A7.open bH;have bB:=Lq7 (A7.cap bH);obtain⟨a,cap,aM,-⟩:=aA.out.rowAt (fun g hg=>(aA.out.block_lt hg).1);rw[Ah] at aM;subst aM;have aF:Hid (OwnD (fun b=>w.heap.size<=b) w3 w.heap.size 27 5 (H a acc.length cap) (Au acc)):=Lq7 (aA.out.keep (fun b hb hF=>aN.out.2.block b hb (by
       intro e;cases e;rcases hF with hF|hF
       ·omega
       ·have:=(aA.out.block_lt hF).1;omega)) aN.out.2.size)
      have h5:=heap_alloc_new w3 (J #[A C xk,E xt,A C xl,A C xc,H a1 xs.length aB] 27);have bC:Below w3.heap.size w3 (w3.alloc (J #[A C xk,E xt,A C xl,A C xc,H a1 xs.length aB] 27)):=(bRf _ w3).alloc (nlr _) _;have aQ:Hid (Ac (fun b=>w.heap.size<=b/\(Value.slice a acc.length cap).ownBlock≠D b) (w3.alloc (J #[A C xk,E xt,A C xl,A C xc,H a1 xs.length aB] 27)) (D ⟨w3.heap.size,0,I⟩) (Au [.mk xk xt xl xc xs])):=Lq7 (by
       refine Ac.lit (size:=5) [[A C xk,E xt,A C xl,A C xc,H a1 xs.length aB]] h5 rfl ⟨aN.out.1.size,fun e=>by have:=(aF.out.block_lt e).2;omega⟩ (by simp) (by simp[Au]) (fun j ds c hj hc=>?_);have bN:=(lgS.1 hc).1;simp only[lnC,lnN] at bN;obtain rfl:j=0:=(by omega);simp[Au] at hj hc;subst hj hc;exact I4 _ _ _ _ aB ((aG.below bC).wider (fun b hb _=>⟨by omega,fun e=>by have:=(aA.out.block_lt e).2;omega⟩)))
      have aC:=Lq7 (aF.out.below ((bRf _ w3).alloc (nlr _) (J #[A C xk,E xt,A C xl,A C xc,H a1 xs.length aB] 27)));have aH:=Lq7 (aIn (Ag aN.out.1 (Bc bC)) (bA.grown bC))
      go_wp2_with (at_builtin;refine Bv rfl _ _ 25 rfl w.heap.size 27 i0 _ 5 64 Tryz.underlying25 hi bO bP bQ rfl (by decide) (H a acc.length cap) (fun b=>w.heap.size<=b) (Au acc) rfl aC.out w3.heap.size 0 1 (Au [.mk xk xt xl xc xs]) ?_ aQ.out (Cg Ed _) (Cg Ef _) ?_ ?_ ?_ ?_)
      ·rw[Ah];rfl
      ·rw[Ah,Ah];unfold maxLen;simp only[lnC,lnN] at bE |-;omega
      ·rw[Ah,Ah];simp only[lnC,lnN] at bE |-;omega
      ·exact aH.out.1.size
      intro v4 w4 aR aD _;have bD:Hid (w.grownBy w4 (D bp)/\PS w4 bp en ts3 d3):=Lq7 ⟨G2 aH.out.1 aD (fun g hg=>(aC.out.block_lt hg).1),aH.out.2.own aD (fun g hg=>by have:=(aC.out.block_lt hg).1;omega)⟩;have aU:Hid (OwnD (fun b=>w.heap.size<=b) w4 w.heap.size 27 5 v4 (Au (acc++[.mk xk xt xl xc xs]))):=Lq7 (by rw[nodesD_append];exact aR);go_wp2_with fail
      go_roundg g
      case measure=>omega
      case rel=>exact⟨acc++[.mk xk xt xl xc xs],ts3,_,rfl,by omega,by simp only[lnA,lnC,lnN] at bE |-;omega,aZ,bD,aU⟩
theorem Ln{α}(m:PM α)(ts d):m ts d=PM.bind m (fun x=>PM.pure x) ts d:=by
 unfold PM.bind;cases m ts d<;>rfl
theorem open_lt{en is ts ts' d d' x}(h:Dc en is ts d = .ok x ts' d'):d<60:=by
 unfold Dc at h;split at h
 ·cases h
 ·rename_i hn
  cases is with
  | false=>cases h
  | true=>
   simp only[Bool.true_and,decide_eq_true_eq] at hn;omega
def M2(m:PM Nd):PM (List Nd):=PM.bind m fun x=>PM.pure [x]
theorem M3{m:PM Nd}:∀ts d l ts' d',PM.bind m (fun x=>PM.pure [x]) ts d = .ok l ts' d'->l≠[]/\l.length<=2:=by
 intro ts d l ts' d' h;unfold PM.bind at h;cases hm:m ts d with
 | ok x t1 d1=>rw[hm] at h;cases h;simp
 | err a b c=>rw[hm] at h;cases h
 | out=>rw[hm] at h;cases h
theorem Aa8{en L}:∀ts d l ts' d',pEntry en L ts d = .ok l ts' d'->l≠[]/\l.length<=2:=by
 intro ts d l ts' d' h;unfold pEntry pLook at h;simp only[PM.bind] at h;split at h
 ·split at h
  ·split at h
   ·cases h;simp
   ·cases h
   ·cases h
  ·cases h
  ·cases h
 ·cases h
 ·cases h
theorem Inc.one{m}(h:Inc 0 m):Inc 0 (M2 m):=Inc.bind h (fun _=>Inc.pure _) rfl
section
variable {w W W':World} {bp:Nat} {en:Int×Int} {ts:List Tok} {dp:Int} {ls:List (Nat×Array Value×TypeId)} {rows:List (Option Addr×List Nd)}
theorem PI.later(h:PI w bp en ts dp ls rows W)(hg:W.grownBy W' (D bp)){b:Nat}{cs:Array Value}{T:TypeId}(hx:(b,cs,T)∈ls):W'.heap[b]? = D (.cells cs T (0,0)):=
 (hg.block _ (h.lt _ hx) (fun e=>by cases e;have:=h.own _ hx;have:=h.bpl;omega)).trans (h.at hx)
theorem PI.down(h:PI w bp en ts dp ls rows W):∃a cap,W.heap[bp]? = D (J #[H a ts.length cap,A C en.1,A C en.2,A C dp] 65 (0,0)) /\
  ∀d,PI w bp en ts d ls rows (W.setCell ⟨bp,3,I⟩ (A C d)):=by
 obtain⟨a,cap,h1,h2,h3,h4⟩:=h.ps;have hbp:=h.bpl;have hX:∀k,k≠bp->∀v,(W.setCell ⟨bp,3,I⟩ v).heap[k]? = W.heap[k]?:=fun k hk v=>Ad hk 3 v;refine⟨a,cap,h1,fun d=>⟨Fb h.grown 3 _,⟨a,cap,Af h1 3 _,h2,h3,h4.grown (Fb (Dn _ _) 3 _)⟩,fun x hx=>?_,h.own,hbp,fun r hr=>?_,h.dist⟩⟩
 ·rw[hX _ (by have:=h.own x hx;omega)];exact h.locs x hx
 ·exact(h.rows r hr).mono fun k hk hl=>⟨hk,by simpa using hl,hX k (by have:=hk.1;omega) _⟩
theorem PI.put4(h:PI w bp en ts dp ls rows W)(j:Nat){b:Nat}{x0 x1 x2 x3:Value}{T:TypeId}(hj:ls[j]? = D (b,#[x0,x1,x2,x3],T))(v0 v1 v2 v3:Value):
  PI w bp en ts dp (ls.set j (b,#[v0,v1,v2,v3],T)) rows ((((W.setCell ⟨b,0,I⟩ v0).setCell ⟨b,1,I⟩ v1).setCell ⟨b,2,I⟩ v2).setCell ⟨b,3,I⟩ v3):=by
 have aA:=(lgS.1 hj).1;have h1:=h.set j hj 0 v0;have h2:=h1.set j (b:=b) (cs:=#[v0,x1,x2,x3]) (T:=T) (by rw[List.getElem?_set_self aA];rfl) 1 v1;rw[List.set_set] at h2;have h3:=h2.set j (b:=b) (cs:=#[v0,v1,x2,x3]) (T:=T) (by rw[List.getElem?_set_self aA];rfl) 2 v2;rw[List.set_set] at h3;have h4:=h3.set j (b:=b) (cs:=#[v0,v1,v2,x3]) (T:=T) (by rw[List.getElem?_set_self aA];rfl) 3 v3;rw[List.set_set] at h4;exact h4
end
theorem OwnD.widerB{F G w base base' e size v l}(h:OwnD F w base e size v l)(hF:∀b,F b->b<w.heap.size->G b)(hb:base'<=base):OwnD G w base' e size v l:=by
 obtain⟨css,hlen,hsz,⟨h1,h2⟩,hd⟩:=h;refine⟨css,hlen,hsz,⟨h1,?_⟩,fun j ds cs h5 h6=>(hd j ds cs h5 h6).wider fun b hb' hl=>⟨hF b hb'.1 hl,hb'.2⟩⟩;rcases h2 with h2|⟨g,cap,cur,h3,h4,h5⟩
 ·exact .inl h2
 ·exact .inr ⟨g,cap,cur,h3,by omega,h5⟩
def PF(w:World)(ls:List (Nat×Array Value×TypeId)):Nat->Prop:=fun b=>w.heap.size<=b/\∀x∈ls,b≠x.1
structure PO(w:World)(bp:Nat)(en:Int×Int)(ts:List Tok)(dp:Int)(ls:List (Nat×Array Value×TypeId))(rows:List (Option Addr×List Nd))(v:Value)(l:List Nd)(W:World):Prop where
 pi:PI w bp en ts dp ls [] W
 od:OwnD (fun b=>w.heap.size<=b/\∀x∈ls,b≠x.1) W w.heap.size 27 5 v (Au l)
 ob:∀g,v.ownBlock=D g->∀x∈ls,g≠x.1
 rd:∀r∈rows,Ac (fun b=>(w.heap.size<=b/\∀x∈ls,b≠x.1)/\v.ownBlock≠D b) W r.1 (Au r.2)
section
variable {w W W':World} {bp:Nat} {en:Int×Int} {ts ts':List Tok} {dp dp':Int} {ls:List (Nat×Array Value×TypeId)} {rows:List (Option Addr×List Nd)} {v:Value} {l:List Nd}
theorem PO.grown(h:PO w bp en ts dp ls rows v l W):w.grownBy W (D bp):=h.pi.grown
theorem PO.ps(h:PO w bp en ts dp ls rows v l W):PS W bp en ts dp:=h.pi.ps
theorem PO.at(h:PO w bp en ts dp ls rows v l W){b:Nat}{cs:Array Value}{T:TypeId}(hx:(b,cs,T)∈ls):W.heap[b]? = D (.cells cs T (0,0)):=h.pi.at hx
theorem PO.lt(h:PO w bp en ts dp ls rows v l W):(∀x∈ls,x.1<W.heap.size)/\∀g,v.ownBlock=D g->g<W.heap.size:=⟨h.pi.lt,fun _ hg=>(h.od.block_lt hg).2⟩
theorem PO.below(h:PO w bp en ts dp ls rows v l W)(hb:Below W.heap.size W W'):PO w bp en ts dp ls rows v l W':=⟨h.pi.below hb,h.od.below hb,h.ob,fun r hr=>(h.rd r hr).below hb⟩
theorem PO.drew(h:PO w bp en ts dp ls rows v l W):PO w bp en ts dp ls rows v l W.drew:=h.below ((bRf _ W).drew)
theorem PO.call(h:PO w bp en ts dp ls rows v l W)(hg:W.grownBy W' (D bp))(hp:PS W' bp en ts' dp'):PO w bp en ts' dp' ls rows v l W':=by
 have aA:=h.pi.bpl;refine⟨h.pi.call hg hp,h.od.keep (fun b hl hF=>hg.block b hl (fun e=>?_)) hg.size,h.ob,fun r hr=>(h.rd r hr).mono fun b hb hl=>⟨hb,nll hl hg.size,hg.block b hl (fun e=>?_)⟩⟩
 ·cases e;rcases hF with hF|hF
  ·omega
  ·have:=(h.od.block_lt hF).1;omega
 ·cases e;have:=hb.1.1;omega
theorem PO.row{B:Nat}{a:Option Addr}{m:List Nd}(h:PO w bp en ts dp ls rows v l W)(hrow:Ac (fun b=>B<=b) W a (Au m))(hw:w.heap.size<=B)(hB:(∀x∈ls,x.1<B)/\∀g,v.ownBlock=D g->g<B):PO w bp en ts dp ls ((a,m)::rows) v l W:=
 ⟨h.pi,h.od,h.ob,fun r hr=>by
  rcases List.mem_cons.1 hr with rfl|hr
  ·exact hrow.wider (fun b hb _=>⟨⟨by omega,fun x hx e=>by have:=hB.1 x hx;omega⟩,fun e=>by have:=hB.2 b e;omega⟩)
  ·exact h.rd r hr⟩
theorem PO.lit(h:PO w bp en ts dp ls rows v l W)(T:TypeId){cs:Array Value}(css:List (List Value))(m:List Nd)(hcs:cs.toList=css.flatten)
  (hsz:∀c∈css,c.length=5) (hlen:css.length=m.length)
  (hd:∀(j:Nat) n c,m[j]? = D n->css[j]? = D c->∃k t ln cl kids a cap,n = .mk k t ln cl kids/\c=[A C k,E t,A C ln,A C cl,H a kids.length cap]/\((a,kids)∈rows\/kids=[])) (hcp:CapOk css m:=by(repeat' (first|exact trivial|refine And.intro ?_ ?_))<;>first|(refine Hid.out ?_;assumption)|assumption|(intro _;exact Nat.zero_le _)|(intro h6;exact absurd h6 (by decide))):
  PO w bp en ts dp ls ((D ⟨W.heap.size,0,I⟩,m)::rows) v l (W.alloc (.cells cs T)):=by
 have hb:=h.below ((bRf _ W).alloc (nlr _) (.cells cs T));refine⟨hb.pi,hb.od,hb.ob,fun r hr=>?_⟩;rcases List.mem_cons.1 hr with rfl|hr
 ·refine Ac.lit (size:=5) css (heap_alloc_new W _) hcs ⟨⟨h.grown.size,fun x hx=>Nat.ne_of_gt (h.pi.locs.lt hx)⟩,fun e=>by have:=(h.od.block_lt e).2;omega⟩ hsz (by rw[Ah];exact hlen) (fun j ds c hj hc=>?_);simp only[B7,lgP,Option.map_eq_some_iff] at hj;obtain⟨n,hn,rfl⟩:=hj;have hcap:=fun k t ln cl kids c0 c1 c2 c3 a n' cap (h1:n = .mk k t ln cl kids) (h2:c=[c0,c1,c2,c3,H a n' cap])=>CapOk.get hcp (hn.trans (congrArg D h1)) (hc.trans (congrArg D h2)) (fun i c' x' h3 h4=>by obtain⟨k,t,ln,cl,kids,a,cap,-,rfl,-⟩:=hd i x' c' h4 h3;exact⟨_,_,_,_,_,_,_,rfl⟩);obtain⟨k,t,ln,cl,kids,a,cap,rfl,rfl,hr|rfl⟩:=hd j n c hn hc
  ·exact I4 _ _ _ _ cap (hb.rd _ hr) (hcap _ _ _ _ _ _ _ _ _ _ _ _ rfl rfl)
  ·exact I4 _ _ _ _ cap (Ac.nil _)
 ·exact hb.rd r hr
theorem PO.ofLit(h:PI w bp en ts dp ls rows W){cs:Array Value}(css:List (List Value))(m:List Nd)(hcs:cs.toList=css.flatten)
  (hsz:∀c∈css,c.length=5) (hlen:css.length=m.length) (hcz:cs.size=m.length*5) (hmx:m.length<=1000)
  (hd:∀(j:Nat) n c,m[j]? = D n->css[j]? = D c->∃k t ln cl kids a cap,n = .mk k t ln cl kids/\c=[A C k,E t,A C ln,A C cl,H a kids.length cap]/\((a,kids)∈rows\/kids=[])) (hcp:CapOk css m:=by(repeat' (first|exact trivial|refine And.intro ?_ ?_))<;>first|(refine Hid.out ?_;assumption)|assumption|(intro _;exact Nat.zero_le _)|(intro h6;exact absurd h6 (by decide))):
  PO w bp en ts dp ls [] (H (D ⟨W.heap.size,0,I⟩) m.length m.length) m (W.alloc (.cells cs 27)):=by
 have hb:=h.below ((bRf _ W).alloc (nlr _) (.cells cs 27));have hl:css.flatten.length=m.length*5:=(by rw[<-hcs,Array.length_toList,hcz]);refine⟨⟨hb.grown,hb.ps,hb.locs,hb.own,hb.bpl,(by intro r hr;cases hr),hb.dist⟩,⟨css,by rw[Ah];exact hlen,hsz,⟨by rw[Ah];exact hl,.inr ⟨W.heap.size,m.length,cs,by rw[Ah],h.grown.size,heap_alloc_new W _,by rw[Ah];exact nlr _,by unfold maxLen;omega,hcz,?_⟩⟩,fun j ds c hj hc=>?_⟩,fun g hg x hx=>?_,by intro r hr;cases hr⟩
 ·rw[Ah,hcs,<-hl,List.take_length]
 ·simp only[B7,lgP,Option.map_eq_some_iff] at hj;obtain⟨n,hn,rfl⟩:=hj;have hcap:=fun k t ln cl kids c0 c1 c2 c3 a n' cap (h1:n = .mk k t ln cl kids) (h2:c=[c0,c1,c2,c3,H a n' cap])=>CapOk.get hcp (hn.trans (congrArg D h1)) (hc.trans (congrArg D h2)) (fun i c' x' h3 h4=>by obtain⟨k,t,ln,cl,kids,a,cap,-,rfl,-⟩:=hd i x' c' h4 h3;exact⟨_,_,_,_,_,_,_,rfl⟩);obtain⟨k,t,ln,cl,kids,a,cap,rfl,rfl,hr|rfl⟩:=hd j n c hn hc
  ·exact I4 _ _ _ _ cap (((h.rows _ hr).here.below ((bRf _ W).alloc (nlr _) (.cells cs 27))).wider (fun b hb _=>⟨hb.1,fun e=>by have h9:W.heap.size=b:=Option.some.inj e;have h10:b<W.heap.size:=hb.2;omega⟩)) (hcap _ _ _ _ _ _ _ _ _ _ _ _ rfl rfl)
  ·exact I4 _ _ _ _ cap (Ac.nil _)
 ·cases hg;exact Nat.ne_of_gt (h.locs.lt hx)
theorem PO.ofOwn(h:PI w bp en ts dp ls rows W)(hg:W.grownBy W' (D bp))(hp:PS W' bp en ts' dp')(hv:VOwn W.heap.size l W' v):PO w bp en ts' dp' ls [] v l W':=by
 have hc:=h.call hg hp;refine⟨⟨hc.grown,hc.ps,hc.locs,hc.own,hc.bpl,(by intro r hr;cases hr),hc.dist⟩,hv.1.widerB (fun b hb _=>⟨Nat.le_trans h.grown.size hb,fun x hx=>Nat.ne_of_gt (nll (h.locs.lt hx) hb)⟩) h.grown.size,fun g hg x hx=>?_,by intro r hr;cases hr⟩;have:=(hv.1.block_lt hg).1;have:=h.locs.lt hx;omega
theorem PO.grew(h:PO w bp en ts dp ls rows v l W){v':Value}{m:List Nd}(hown:OwnD (PF w ls) W' w.heap.size 27 5 v' (Au l++Au m))(hg:W.grownBy W' v.ownBlock)
  (hor:∀g,v'.ownBlock=D g->v.ownBlock=D g\/W.heap.size<=g):PO w bp en ts dp ls [] v' (l++m) W':=by
 have aA:=h.pi.bpl;refine⟨⟨G2 h.grown hg (fun g hq=>(h.od.block_lt hq).1),h.ps.own hg (fun g hq=>by have:=(h.od.block_lt hq).1;omega),fun x hx=>?_,h.pi.own,aA,(by intro r hr;cases hr),h.pi.dist⟩,by rw[nodesD_append];exact hown,fun g hq x hx=>?_,by intro r hr;cases hr⟩
 ·exact(hg.block _ (h.pi.locs.lt hx) (fun e=>h.ob _ e.symm x hx rfl)).trans (h.pi.locs x hx)
 ·rcases hor g hq with hq|hq
  ·exact h.ob g hq x hx
  ·exact Nat.ne_of_gt (nll (h.pi.locs.lt hx) hq)
theorem PO.sliceC(h:PO w bp en ts dp ls rows v l W):∃a cap,v = H a l.length cap/\l.length<=cap:=by
 obtain⟨css,-,-,⟨-,⟨rfl,h2⟩|⟨g,cap,cur,rfl,-,-,h6,-⟩⟩,-⟩:=h.od
 ·rw[Ah] at h2;exact⟨I,0,by rw[h2],by omega⟩
 ·rw[Ah] at h6;exact⟨_,cap,by rw[Ah],h6⟩
theorem PO.toRow{a:Option Addr}{n cap:Nat}(h:PO w bp en ts dp ls rows (H a n cap) l W):PI w bp en ts dp ls [(a,l)] W:=by
 obtain⟨a',cap',hva,hrow⟩:=h.od.rowAt (fun g hg=>⟨(h.od.block_lt hg).1,h.ob g hg⟩);obtain rfl:a=a':=(by injection hva);refine⟨h.pi.grown,h.pi.ps,h.pi.locs,h.pi.own,h.pi.bpl,fun r hr=>?_,h.pi.dist⟩;obtain rfl:r=(a,l):=(by simpa using hr);exact hrow
end
theorem Zr(n)(hn:inR n=true)(w)(hT:Em w):Calls Tryz.prog 162 #[A C n] w (Le (Lib.itoa n) w):=by
 unfold inR at hn;simp only[Bool.and_eq_true,decide_eq_true_eq] at hn;have HF:=Lq7 (Tryz.strconv_FormatInt_10 n hn.1 hn.2 w hT);clear hT;go_enter Tryz.func162,Tryz.ntmps162;go_wp2_with fail;refine HF.out.mono ?_;rintro e w1 ⟨rfl,k,os,hw⟩;have Hb:Hid (Below w.heap.size w w1):=Lq7 (by
  rw[hw];exact(Cy (bRf _ w) k).trans (below_grown (w.drewN k) 0 os))
 clear hw;go_wp2_with fail;go_ret;exact⟨_,rfl,rfl,Hb.out⟩
theorem C9(a b:ByteArray):(a++b).data.toList=a.data.toList++b.data.toList:=by simp
end Go.Proofs.YtlbbbapiklendaaGreatDoor
