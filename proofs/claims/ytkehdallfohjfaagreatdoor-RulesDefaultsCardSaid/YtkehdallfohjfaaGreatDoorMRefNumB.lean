/-
  What the walk of the document's Num wants of texts. (And what it stands on.)
-/
import Derived.Lib.LastIndexByte
import Derived.IntWalk
import Derived.RegionTactic
import Derived.Deep.RegionWith
import Derived.Deep.LoopGhost
import Derived.Lib.ItoaMem
import Derived.Lib.ItoaLen
import Derived.Laws.IdiomStrings
import Derived.Test.YtkehdallfohjfaaGreatDoorMPathPart
import Derived.Test.YtkehdallfohjfaaGreatDoorMHeldSkip
import Derived.Test.YtkehdallfohjfaaGreatDoorMOwnLow
import Derived.Test.YtkehdallfohjfaaGreatDoorShelf
import Derived.Test.YtkehdallfohjfaaGreatDoorMEvalPlain
namespace Go.Proofs.YtkehdallfohjfaaGreatDoor
open Go Go.RowKit
open List renaming getElem?_eq_getElem->lgE,getElem?_eq_some_iff->lgS,length_cons->lnC,length_append->lnA,length_map->lnM,length_take->lnT,getElem?_map->lgP,take_of_length_le->ltL,length_nil->lnN,mem_of_getElem? -> lgM
open Nat renaming le_refl->nlr,lt_of_lt_of_le->nll,zero_le->nlz
open Go.Lib renaming hid->Lq7,toList_data->Lq8
open Go.RowKit.Below renaming refl->bRf
open _root_.Array renaming getElem?_eq_some_iff->agS
open And renaming intro->aIn
set_option maxRecDepth 100000
set_option maxHeartbeats 16000000
theorem behindLast_eq(s)(h:0<s.data.toList.count 10):∃i:Nat,i<s.size/\Lib.lastIndexByte s 10=(i:Int)/\behindLast s.data.toList+1=s.size-i:=by
 have aE:∀(j:Nat) (hj:j<s.size),s.data.toList[j]? = some (s.data[j]!):=fun j hj=>by
  have h1:=F0 s j hj;rw[h1];have h2:s.data[j]! = s.data[j]'hj:=getElem!_pos s.data j hj;rw[h2];rfl
 rcases Lib.lastIndexByte_spec s 10 with⟨e,hn⟩|⟨i,hi,e,hc,hn⟩
 ·exfalso;obtain⟨j,hj⟩:=List.getElem?_of_mem (List.count_pos_iff.1 h);have aA:=(lgS.1 hj).1;rw[Av] at aA;rw[aE j aA] at hj;exact hn j aA (by rw[Option.some.inj hj];rfl)
 ·refine⟨i,hi,e,?_⟩;have aF:i<s.data.toList.length:=(by rw[Av];exact hi);have h10:s.data.toList[i]'aF=10:=by
   have:=aE i hi;rw[lgE aF] at this;rw[Option.some.inj this];exact UInt8.toNat_inj.1 (by show _=10;omega)
  have aB:s.data.toList=s.data.toList.take i++10::s.data.toList.drop (i+1):=by
   rw[<-h10,<-List.drop_eq_getElem_cons aF,List.take_append_drop]
  have aC:∀x∈(s.data.toList.drop (i+1)).reverse,decide (x≠10)=true:=by
   intro x hx;rw[List.mem_reverse] at hx;obtain⟨j,hj⟩:=List.getElem?_of_mem hx;rw[List.getElem?_drop] at hj;have aA:=(lgS.1 hj).1;rw[Av] at aA;rw[aE _ aA] at hj;have:=hn (i+1+j) (by omega) aA;rw[Option.some.inj hj] at this;simp;rintro rfl;exact this rfl
  have hb:behindLast s.data.toList=s.size-i - 1:=by
   unfold behindLast;rw[aB,List.reverse_append,List.reverse_cons,List.append_assoc,List.takeWhile_append_of_pos aC,List.singleton_append,List.takeWhile_cons_of_neg (by simp),List.append_nil,List.length_reverse,List.length_drop,Av];omega
  omega
def PPlace(p:Int×Int)(w:World)(e:Ending)(w':World):Prop:=Below w.heap.size w w'/\e = .returned (.agg #[.int .i64 p.1,.int .i64 p.2])
theorem Oz(ln cl s w)(hs:s.size<=65536)(hl0:0<=ln)(hl1:ln<=1000000)(hc0:0<=cl)(hc1:cl<=1000000):
  Calls Tryz.prog 44 #[.agg #[.int .i64 ln,.int .i64 cl],.string s] w (PPlace (passL (ln,cl) s.data.toList) w):=by
 go_enter Tryz.func44,Tryz.ntmps44;go_wp2_with fail;refine(Tryz.strings_Count_one s 10 _).mono ?_;rintro e w2 ⟨rfl,aD⟩;have aD:=aD.symm;subst aD;by_cases hn:0<s.data.toList.count 10
 ·obtain⟨i,hi,aH,hbl⟩:=behindLast_eq s hn;have aG:s.data.toList.count 10<=s.size:=(by rw[<-Av];exact List.count_le_length ..);have Hr:Hid (passL (ln,cl) s.data.toList=(ln+(s.data.toList.count 10:Int),((s.size-i:Nat):Int))):=Lq7 (by unfold passL;rw[if_pos hn,<-hbl];simp);have aI:((s.size-i:Nat):Int)=(s.size:Int)-(i:Int):=(by omega);have Hsi:=Lq7 aI;rw[show Lib.countByte s.data.toList 10=s.data.toList.count 10 from rfl];generalize s.data.toList.count 10=m0 at hn aG Hr |-;have Hli:=Lq7 aH;have hn':(0:Int)<(m0:Int):=(by omega);have hw1:=IntWalk.i64_in (ln+(m0:Int)) (by omega);clear aH hbl aI;go_wp2_with fail;refine L2 [10] (by kernel_rfl) (by kernel_rfl) ?_;refine S2 10 (by decide) ?_;simp only[List.take_succ_cons,List.take_zero,List.drop_succ_cons,List.drop_zero]
  repeat (first
   | go_big_quiet_step ((go_at_call 82;exact Calls.quiet_of_same (Tryz.strings_LastIndexByte s 10 (by omega) _)))
   | quiet_step ((go_at_call 82;exact Calls.quiet_of_same (Tryz.strings_LastIndexByte s 10 (by omega) _))))
  refine wpQuiet_nil ?_;refine S3 (by decide) (fun n K hK=>?_);rw[Hli.out];have aD:=IntWalk.wrap64_in ((s.size:Int)-(i:Int)) (by omega);go_wp2_with fail;refine mix_end (fun m=>?_);go_wp2_with fail;refine bodyPost_ret (v:=.agg #[.int .i64 (ln+m0),.int .i64 ((s.size:Int)-(i:Int))]) (by simp[results,Tryz.results44,go_sem]) rfl ?_;rw[Hr.out,Hsi.out];refine⟨Dy ((Dy (((bRf _ _).alloc (nlr _) _).alloc (by simp) _) n).setCell (p:=⟨w.heap.size+1,0,none⟩) (by simp) _ |>.setCell (p:=⟨w.heap.size+1,1,none⟩) (by simp) _) m,rfl⟩
 ·have aJ:Lib.countByte s.data.toList 10=0:=(by unfold Lib.countByte;omega);have Hr:Hid (passL (ln,cl) s.data.toList=(ln,cl+s.size)):=Lq7 (by unfold passL;rw[if_neg hn,Av]);rw[aJ];clear hn aJ;go_wp2_with fail;refine bodyPost_ret (v:=.agg #[.int .i64 ln,.int .i64 (cl+s.size)]) (by simp[results,Tryz.results44,go_sem]) rfl ?_;rw[Hr.out];exact⟨((bRf _ _).alloc (nlr _) _).alloc (by simp) _,rfl⟩
theorem quotedL_le:∀(f:Nat) (l:List UInt8) (r:List UInt8×Nat),l.length<=f->By l=some r->r.2<=l.length:=by
 intro f
 induction f with
 | zero=>intro l r hl h;obtain rfl:l=[]:=List.length_eq_zero_iff.1 (by omega);cases h
 | succ f ih=>
  intro l r hl h;cases l with
  | nil=>cases h
  | cons c t=>
   rw[Cc] at h;simp only[lnC] at hl |-;split at h
   ·cases h;simp
   split at h
   ·cases h
   split at h
   ·cases t with
    | nil=>cases h
    | cons d t'=>
     simp only at h;cases hu:Er d with
     | none=>rw[hu] at h;cases h
     | some u=>
      rw[hu] at h;cases hq:By t' with
      | none=>rw[hq] at h;cases h
      | some r'=>
       rw[hq] at h;cases h;have:=ih t' r' (by simp at hl;omega) hq;simp only[lnC];omega
   ·cases hq:By t with
    | none=>rw[hq] at h;cases h
    | some r'=>
     rw[hq] at h;cases h;have:=ih t r' (by omega) hq;simp only;omega
theorem runL_pos{p c t}(h:p c=true):1<=runL p (c::t):=by unfold runL;rw[List.takeWhile_cons_of_pos h];simp
theorem Ic{l x}(h:Bz l = .ok x):1<=x.2.2/\x.2.2<=l.length:=by
 cases l with
 | nil=>cases h
 | cons c t=>
  rw[Bz.eq_def] at h;simp only at h;split at h
  ·rename_i hg;cases h;exact⟨runL_pos hg,runL_le _ _⟩
  split at h
  ·rename_i _ hc;cases h;exact⟨runL_pos (by rw[hc];decide),runL_le _ _⟩
  split at h
  ·rename_i hg;cases h;exact⟨runL_pos (by unfold Cm;rw[hg];rfl),runL_le _ _⟩
  split at h
  ·rename_i hg
   unfold C7 at h;split at h
   ·cases h
   split at h
   ·cases h
   ·cases h;exact⟨runL_pos hg,runL_le _ _⟩
  split at h
  ·split at h
   ·rename_i r hq;cases h;have:=quotedL_le _ _ _ (nlr _) hq;simp only[lnC];omega
   ·cases h
  split at h
  ·rename_i hp
   cases h;refine⟨by simp,?_⟩;cases t with
   | nil=>simp at hp
   | cons d t'=>simp
  split at h
  ·cases h;simp
  ·cases h
theorem R7{l n}(h:Bz l = .error n):n=2\/n=3:=by
 cases l with
 | nil=>cases h;simp
 | cons c t=>
  rw[Bz.eq_def] at h;simp only at h;split at h
  ·cases h
  split at h
  ·cases h
  split at h
  ·cases h
  split at h
  ·unfold C7 at h;split at h
   ·cases h;simp
   split at h
   ·cases h;simp
   ·cases h
  split at h
  ·split at h
   ·cases h
   ·cases h;simp
  split at h
  ·cases h
  split at h
  ·cases h
  ·cases h;simp
theorem Lz(l)(h:0<l.count 10):behindLast l+1<=l.length:=by
 unfold behindLast;have hm:(10:UInt8)∈l.reverse:=List.mem_reverse.2 (List.count_pos_iff.1 h);obtain⟨a,b,aA⟩:=List.append_of_mem hm;have hlen:l.length=a.length+(b.length+1):=(by rw[<-List.length_reverse,aA];simp);have:((a++10::b).takeWhile (fun x=>decide (x≠(10:UInt8)))).length<=a.length:=by
  clear aA hlen hm
  induction a with
  | nil=>simp
  | cons x t ih=>
   rw[List.cons_append,List.takeWhile_cons];split
   ·simp only[lnC];exact Nat.succ_le_succ ih
   ·simp
 rw[aA];have h2:=this;simp only[ne_eq] at h2 |-;omega
theorem I5{ln cl:Int}{l:List UInt8}{m r:Nat}(h0:0<=ln)(h1:0<=cl)(h2:ln+l.length+r<=m)(h3:cl+l.length+r<=m)(h4:l.length+r<=m):
  0<=(passL (ln,cl) l).1/\(passL (ln,cl) l).1+r<=m/\0<=(passL (ln,cl) l).2/\(passL (ln,cl) l).2+r<=m:=by
 have hc:=List.count_le_length (a:=(10:UInt8)) (l:=l);unfold passL;split
 ·rename_i h
  have:=Lz l h;simp only;omega
 ·simp only;omega
def F6(l:List UInt8)(p:Int×Int)(rest:List UInt8)(acc:List Tok):Prop:=
 ∀f,rest.length<f->Bt (l.length+1) (1,1) l=(Bt f p rest).map fun ts=>acc++ts
theorem tokensL_fuel:∀(f g:Nat) (p:Int×Int) (l:List UInt8),l.length<f->l.length<g->Bt f p l=Bt g p l
 | 0,_,_,_,h,_=>by omega
 | f+1,0,_,_,_,h=>by omega
 | f+1,g+1,p,l,hf,hg=>by
  unfold Bt;split
  ·rfl
  ·cases hn:Bz l with
   | error e=>rfl
   | ok x=>
    obtain⟨k,s,n⟩:=x;have h1:=Ic hn;simp only at h1 |-;rw[tokensL_fuel f g _ (l.drop n) (by rw[List.length_drop];omega) (by rw[List.length_drop];omega)]
theorem F6.start(l):F6 l (1,1) l []:=by
 intro f hf;rw[tokensL_fuel (l.length+1) f _ l (by omega) hf];cases Bt f (1,1) l<;>rfl
theorem F6.stop{l p acc}(h:F6 l p [] acc):Bt (l.length+1) (1,1) l = .ok acc:=by
 rw[h 1 (by simp)];simp[Bt,Except.map]
theorem F6.fail{l rest p acc e}(h:F6 l p rest acc)(hr:rest≠[])(he:Bz rest = .error e):Bt (l.length+1) (1,1) l = .error (e,p.1,p.2):=by
 rw[h (rest.length+1) (by omega),Bt,if_neg hr,he];rfl
theorem F6.next{l rest p acc x}(h:F6 l p rest acc)(hr:rest≠[])(he:Bz rest = .ok x):
  F6 l (passL p (rest.take x.2.2)) (rest.drop x.2.2) (if 0<x.1 then acc++[⟨x.1,⟨x.2.1.toArray⟩,p.1,p.2⟩] else acc):=by
 obtain⟨k,s,n⟩:=x;intro f hf;have h1:=Ic he;simp only at h1 hf |-;rw[List.length_drop] at hf;rw[h (rest.length+1) (by omega),Bt,if_neg hr,he];simp only;rw[tokensL_fuel rest.length f _ (rest.drop n) (by rw[List.length_drop];omega) (by rw[List.length_drop];omega)];cases Bt f (passL p (rest.take n)) (rest.drop n) with
 | error e=>rfl
 | ok ts=>simp only[Except.map];split<;>simp
def Jh(t:Tok):List Dat:=[.one (.int .i64 t.kind),.one (.string t.text),.one (.int .i64 t.line),.one (.int .i64 t.col)]
def tokC(t:Tok):List Value:=[.int .i64 t.kind,.string t.text,.int .i64 t.line,.int .i64 t.col]
theorem tokAgg(F w t):Ay F w (Jh t) (tokC t):=.cons (.one _) (.cons (.one _) (.cons (.one _) (.cons (.one _) .nil)))
theorem infoTok:(Tryz.prog.info? 70).map (fun i=>(i.zero,i.size,i.bytes))=some (some (.agg #[.int .i64 0,.string ByteArray.empty,.int .i64 0,.int .i64 0]),4,40):=by kernel_rfl
def PLex(r:Except (Int×Int×Int) (List Tok))(w:World)(e:Ending)(w':World):Prop:=
 Below w.heap.size w w'/\match r with
  | .ok ts=>∃a cap,e = .returned (.tuple #[.slice a ts.length cap,.int .i64 0,.agg #[.int .i64 0,.int .i64 0]])/\(ts.length<=cap/\cap<=maxLen)/\Ag (fun b=>w.heap.size<=b) w' a (ts.map Jh)
  | .error x=>e = .returned (.tuple #[.slice none 0 0,.int .i64 x.1,.agg #[.int .i64 x.2.1,.int .i64 x.2.2]])
def strSize(v:Value):Nat:=match v with | .string s=>s.size|_=>0
theorem Ij{B w w'}(h:Below B w.drew w'):Below B w w':=⟨h.os,h.tape,h.output,h.size,h.block⟩
theorem G5(w:World)(cs:List Value)(t:TypeId):∀(j:Nat) u,cs[j]? = some u->(w.alloc (.cells cs.toArray t)).cell? ((⟨w.heap.size,0,none⟩:Addr).add j)=some u:=by
 intro j u hj;have h:((⟨w.heap.size,0,none⟩:Addr).add j)=⟨w.heap.size,j,none⟩:=by unfold Addr.add;split<;>simp_all
 rw[h];unfold World.cell?;rw[heap_alloc_new]
 simpa using hj
theorem Q8(s w)(hs:s.size<=9223372036854775807)(hw:Ir w):
  Calls Tryz.prog 23 #[.string s] w (PLex (F7 s.data.toList) w):=by
 obtain⟨i0,hi,hz0,hz1,hz2⟩:=info_parts infoTok;by_cases hbig:(65536:Int)<s.size
 ·have Hr:Hid (F7 s.data.toList = .error (6,1,1)):=Lq7 (by unfold F7;rw[if_pos (by rw[Av];omega)]);go_enter Tryz.func23,Tryz.ntmps23;go_wp2_with fail
  go_region
  all_goals
   go_wp2_with fail;refine bodyPost_ret (v:=.tuple #[.slice none 0 0,.int .i64 6,.agg #[.int .i64 1,.int .i64 1]]) (by simp[results,Tryz.results23,go_sem]) rfl ?_;rw[Hr.out]
   first|exact⟨((bRf _ w).alloc (nlr _) _).alloc (by simp) _,rfl⟩|exact⟨(((bRf _ w).alloc (nlr _) _).alloc (by simp) _).drew,rfl⟩
 ·have Hr:Hid (F7 s.data.toList=Bt (s.data.toList.length+1) (1,1) s.data.toList):=Lq7 (by unfold F7;rw[if_neg (by rw[Av];omega)]);go_enter Tryz.func23,Tryz.ntmps23;go_wp2_with fail;obtain⟨W1,bE⟩:∃W1,W1=(w.alloc (.cells #[.int .i64 0,.int .i64 0] 32)).alloc (.cells #[.int .i64 1,.int .i64 1] 32):=⟨_,rfl⟩;rw[<-bE];have bW:Below w.heap.size w W1:=(by rw[bE];exact((bRf _ w).alloc (nlr _) _).alloc (by simp) _);have bX:W1.heap[w.heap.size]? = some (.cells #[.int .i64 0,.int .i64 0] 32 (0,0)):=(by rw[bE];exact(Below.heap_alloc _ _ _ (by simp)).trans (heap_alloc_new w _));have bY:W1.heap[w.heap.size+1]? = some (.cells #[.int .i64 1,.int .i64 1] 32 (0,0)):=(by rw[bE];have:=heap_alloc_new (w.alloc (.cells #[.int .i64 0,.int .i64 0] 32)) (.cells #[.int .i64 1,.int .i64 1] 32);simpa using this);have Hb1:=Lq7 (aIn bW (aIn bX bY));clear bE bW bX bY
  go_loopw [6,7] (fun v sv wr=>∃(acc:List Tok) (s':ByteArray) (ln cl:Int) (v':Value),v=v'/\sv = .string s'/\s'.size<=65536/\0<=ln/\0<=cl/\ln+s'.size<=65537/\cl+s'.size<=65537/\acc.length+s'.size<=65536 /\
   Hid (F6 s.data.toList (ln,cl) s'.data.toList acc)/\Hid (Bp (fun b=>w.heap.size+2<=b) wr (w.heap.size+2) 70 4 v' (acc.map Jh))/\Hid (Below w.heap.size w wr/\wr.heap[w.heap.size]? = some (.cells #[.int .i64 0,.int .i64 0] 32 (0,0))/\wr.heap[w.heap.size+1]? = some (.cells #[.int .i64 ln,.int .i64 cl] 32 (0,0)))) (fun _ sv _=>strSize sv)
  case atStart=>exact⟨[],s,1,1,_,rfl,rfl,by omega,by omega,by omega,by omega,by omega,by simp;omega,Lq7 (F6.start _),Lq7 (Bp.nil _ _ _ _ _),Hb1⟩
  case round=>
   obtain⟨acc,s',ln,cl,v,hv,rfl,hs',bN,bO,hl1,hc1,hacc,bF,hown,aA⟩:=hrel;have hv:=hv.symm;subst hv;by_cases h0:0<s'.size
   ·have hne:s'.toList.isEmpty=false:=by
     rw[Lq8];cases hl:s'.data.toList with
     | nil=>have:=Av s';rw[hl] at this;simp at this;omega
     | cons=>rfl
    obtain⟨hb,hr,hp⟩:=aA.out;have bZ:=next_any s' wr hs' h0 (hw.below hb);have bD:=Lq7 bZ;clear bZ;have aU:s'.data.toList≠[]:=(by intro h;have:=Av s';rw[h] at this;simp at this;omega);have cA:=Lq7 aU;clear aU hb hr hp;go_wp2_with fail;refine bD.out.mono ?_;rintro e w2 ⟨bA,hq⟩;have bG:Below w.heap.size w w2:=aA.out.1.trans (bA.mono aA.out.1.size);obtain⟨aU,q0,q1,z0,z1⟩:=A1 ((bA.block _ (agS.1 aA.out.2.1).1).trans aA.out.2.1);obtain⟨bR,p0,p1,y0,y1⟩:=A1 ((bA.block _ (agS.1 aA.out.2.2).1).trans aA.out.2.2);have aG:=Lq7 (aIn bG bA);clear bG bA bD;cases hnl:Bz s'.data.toList with
    | error n=>
     have Hf:=Lq7 (bF.out.fail cA.out hnl);have hn:=R7 hnl;rw[hnl] at hq;obtain rfl:=hq;clear hnl;rcases hn with rfl|rfl
     ·go_wp2_with fail
      go_region
      all_goals
       go_wp2_with fail;refine bodyPost_ret (v:=.tuple #[.slice none 0 0,.int .i64 2,.agg #[.int .i64 ln,.int .i64 cl]]) (by simp[results,Tryz.results23,go_sem,q0,q1,aU]) rfl ?_;rw[Hr.out,Hf.out];have aJ:=(aG.out.1.setCell (p:=⟨w.heap.size,0,none⟩) (nlr _) (.int .i64 ln)).setCell (p:=⟨w.heap.size,1,none⟩) (nlr _) (.int .i64 cl)
       first|exact⟨aJ.alloc aJ.size _,rfl⟩|exact⟨(aJ.alloc aJ.size _).drew,rfl⟩
     ·go_wp2_with fail
      go_region
      all_goals
       go_wp2_with fail;refine bodyPost_ret (v:=.tuple #[.slice none 0 0,.int .i64 3,.agg #[.int .i64 ln,.int .i64 cl]]) (by simp[results,Tryz.results23,go_sem,q0,q1,aU]) rfl ?_;rw[Hr.out,Hf.out];have aJ:=(aG.out.1.setCell (p:=⟨w.heap.size,0,none⟩) (nlr _) (.int .i64 ln)).setCell (p:=⟨w.heap.size,1,none⟩) (nlr _) (.int .i64 cl)
       first|exact⟨aJ.alloc aJ.size _,rfl⟩|exact⟨(aJ.alloc aJ.size _).drew,rfl⟩
    | ok x=>
     have hlen:=Ic hnl;have aB:=Lq7 (bF.out.next cA.out hnl);rw[hnl] at hq;obtain⟨t,cB,rfl⟩:=hq;have cC:=Lq7 cB;obtain⟨k,ts,n⟩:=x;simp only at hlen aB cC |-;rw[Av] at hlen;clear hnl bF cB;obtain⟨W2,bB⟩:∃W2,W2=w2.alloc (.cells #[.int .i64 k,.string t,.int .i64 ln,.int .i64 cl] 70):=⟨_,rfl⟩;have bP:Below w2.heap.size w2 W2:=(by rw[bB];exact(bRf _ w2).alloc (nlr _) _);have aE:Below wr.heap.size wr W2:=aG.out.2.trans (bP.mono aG.out.2.size);have hz2':W2.heap.size=w2.heap.size+1:=(by rw[bB];simp);by_cases hk:0<k
     ·have aM:=(hown.out.below aE).below ((bRf _ W2).alloc (nlr _) (.cells #[.int .i64 k,.string t,.int .i64 ln,.int .i64 cl] 70));have aH:=G5 W2 (tokC ⟨k,t,ln,cl⟩) 70;rw[bB] at aM aH;rw[show(w2.alloc (.cells #[.int .i64 k,.string t,.int .i64 ln,.int .i64 cl] 70)).heap.size=w2.heap.size+1 from by simp] at aH;have aI:=Lq7 aM;have aY:=Lq7 aH;have bQ:=Lq7 (aIn bB (aIn aE hz2'));clear aM aH bB aE hz2' bP hown
      go_wp2_with (at_builtin;refine Db rfl _ _ 59 rfl (w.heap.size+2) 70 i0 _ 4 40 Tryz.underlying59 hi hz0 hz1 hz2 rfl (by decide) v (fun b=>w.heap.size+2<=b) (acc.map Jh) rfl aI.out ⟨w2.heap.size+1,0,none⟩ 1 (Jh ⟨k,t,ln,cl⟩) (tokC ⟨k,t,ln,cl⟩) rfl rfl aY.out ?_ (tokAgg _ _ _) ?_ ?_ ?_ ?_)
      ·simp[tokC,Value.oneCell']
      ·rw[lnM];unfold maxLen;omega
      ·rw[lnM];omega
      ·have:=aG.out.1.size;simp;omega
      intro v3 w3 aZ aF aV;have bH:Below w.heap.size w w3:=(((aG.out.1.alloc aG.out.1.size _).alloc (by have:=aG.out.1.size;simp;omega) _)).grown aF (by have:=aG.out.1.size;simp;omega) (fun g hg=>by have:=(aI.out.block_lt hg).1;omega);have aN:∀j,j<w2.heap.size->j<w.heap.size+2->w3.heap[j]? = wr.heap[j]?:=fun j hj hj2=>by
       rw[aF.block j (by simp;omega) (fun e=>by have:=(aI.out.block_lt e.symm).1;omega),Below.heap_alloc _ _ _ (by simp;omega),Below.heap_alloc _ _ _ hj,aG.out.2.block j (by have:=aA.out.1.size;have:=(agS.1 aA.out.2.2).1;omega)]
      have aC:Hid (Below w.heap.size w w3/\w3.heap[w.heap.size]? = some (.cells #[.int .i64 0,.int .i64 0] 32 (0,0))/\w3.heap[w.heap.size+1]? = some (.cells #[.int .i64 ln,.int .i64 cl] 32 (0,0))):=
       Lq7 ⟨bH,(aN _ aU (by omega)).trans aA.out.2.1,(aN _ bR (by omega)).trans aA.out.2.2⟩
      have aD:Hid (Bp (fun b=>w.heap.size+2<=b) w3 (w.heap.size+2) 70 4 v3 ((acc++[(⟨k,t,ln,cl⟩:Tok)]).map Jh)):=Lq7 (by rw[List.map_append];exact aZ);have bD:Hid (F6 s.data.toList (passL (ln,cl) (s'.data.toList.take n)) (s'.data.toList.drop n) (acc++[(⟨k,t,ln,cl⟩:Tok)])):=Lq7 (by
       have h:=aB.out;rw[if_pos hk] at h;rw[show t=⟨ts.toArray⟩ from bytes_ext (by rw[cC.out])];exact h)
      clear aZ aF aV bH aN q0 q1 z0 z1 p0 p1 y0 y1 aB aI aY bQ aG aA aU bR;obtain⟨aQ,p0,p1,y0,y1⟩:=A1 aC.out.2.2;have hn1:(n:Int)<=s'.size:=(by omega);have Hx1:Hid ((s'.extract 0 n).data.toList=s'.data.toList.take n):=Lq7 (by rw[Lib.extract_data];simp);have bS:Hid ((s'.extract n s'.size).data.toList=s'.data.toList.drop n):=Lq7 (L6 s' n);have bT:(s'.extract 0 n).size=n:=(by rw[ByteArray.size_extract];omega);have aR:(s'.extract n s'.size).size=s'.size-n:=(by rw[ByteArray.size_extract];omega);have aW:(s'.data.toList.take n).length=n:=(by rw[lnT,Av];omega);have bI:=I5 (l:=s'.data.toList.take n) (m:=65537) (r:=s'.size-n) bN bO (by rw[aW];omega) (by rw[aW];omega) (by rw[aW];omega);have bJ:=Lq7 (aIn bI aR);have hxs':(s'.extract 0 n).size<=65536:=(by omega);clear bT aR aW bI;go_wp2_with fail
      go_region_with ((go_at_call 44;refine(Oz ln cl (s'.extract 0 n) _ hxs' bN (by omega) bO (by omega)).mono ?_;rintro e w5 ⟨bC,rfl⟩;obtain⟨bU,r0,r1,x0,x1⟩:=A1 ((bC.block (w.heap.size+1) aQ).trans aC.out.2.2);have aS:=Lq7 (Ij bC);clear bC))
      go_wp2_with fail;go_roundw
      case rel=>
       (repeat apply Exists.intro)
       refine⟨?_,rfl⟩;obtain⟨⟨g1,g2,g3,g4⟩,g5⟩:=bJ.out;generalize passL (ln,cl) (s'.data.toList.take n)=q at *;refine⟨acc++[(⟨k,t,ln,cl⟩:Tok)],s'.extract n s'.size,q.1,q.2,_,rfl,rfl,by omega,g1,g3,by omega,by omega,by first|omega|(simp only[lnA,List.length_singleton];omega),Lq7 ?_,Lq7 ?_,Lq7 ?_⟩
       ·rw[bS.out];exact bD.out
       ·refine(aD.out.below aS.out).keep (fun b hb hF=>?_) (by simp);have bA:w.heap.size+2<=b:=by
         rcases hF with hF|hF
         ·exact hF
         ·exact((aD.out.below aS.out).block_lt hF).1
        rw[Af (by omega),Af (by omega)]
       ·refine⟨((aC.out.1.trans (aS.out.mono aC.out.1.size)).setCell (p:=⟨w.heap.size+1,0,none⟩) (by simp) _).setCell (p:=⟨w.heap.size+1,1,none⟩) (by simp) _,?_,?_⟩
        ·rw[Af (by omega),Af (by omega),aS.out.block _ (by have:=aC.out.1.size;have:=(agS.1 aC.out.2.1).1;exact this)];exact aC.out.2.1
        ·have h5:=(aS.out.block (w.heap.size+1) aQ).trans aC.out.2.2;exact Al (Al h5 0 (.int .i64 q.1)) 1 (.int .i64 q.2)
      case measure=>
       have:=bJ.out.2;show(s'.extract n s'.size).size<s'.size;omega
     ·have bH:Below w.heap.size w W2:=aG.out.1.trans (bP.mono aG.out.1.size);have aC:Hid (Below w.heap.size w W2/\W2.heap[w.heap.size]? = some (.cells #[.int .i64 0,.int .i64 0] 32 (0,0))/\W2.heap[w.heap.size+1]? = some (.cells #[.int .i64 ln,.int .i64 cl] 32 (0,0))):=
       Lq7 ⟨bH,(aE.block _ (agS.1 aA.out.2.1).1).trans aA.out.2.1,(aE.block _ (agS.1 aA.out.2.2).1).trans aA.out.2.2⟩
      have aD:=Lq7 (hown.out.below aE);have bD:Hid (F6 s.data.toList (passL (ln,cl) (s'.data.toList.take n)) (s'.data.toList.drop n) acc):=Lq7 (by
       have h:=aB.out;rw[if_neg hk] at h;exact h)
      have bQ:=Lq7 bB;clear bH aE hz2' bP hown bB aB aG aA;go_wp2_with fail;rw[<-bQ.out];clear bQ q0 q1 z0 z1 p0 p1 y0 y1 aU bR;obtain⟨aQ,p0,p1,y0,y1⟩:=A1 aC.out.2.2;have hn1:(n:Int)<=s'.size:=(by omega);have Hx1:Hid ((s'.extract 0 n).data.toList=s'.data.toList.take n):=Lq7 (by rw[Lib.extract_data];simp);have bS:Hid ((s'.extract n s'.size).data.toList=s'.data.toList.drop n):=Lq7 (L6 s' n);have bT:(s'.extract 0 n).size=n:=(by rw[ByteArray.size_extract];omega);have aR:(s'.extract n s'.size).size=s'.size-n:=(by rw[ByteArray.size_extract];omega);have aW:(s'.data.toList.take n).length=n:=(by rw[lnT,Av];omega);have bI:=I5 (l:=s'.data.toList.take n) (m:=65537) (r:=s'.size-n) bN bO (by rw[aW];omega) (by rw[aW];omega) (by rw[aW];omega);have bJ:=Lq7 (aIn bI aR);have hxs':(s'.extract 0 n).size<=65536:=(by omega);clear bT aR aW bI;skip
      go_region_with ((go_at_call 44;refine(Oz ln cl (s'.extract 0 n) _ hxs' bN (by omega) bO (by omega)).mono ?_;rintro e w5 ⟨bC,rfl⟩;obtain⟨bU,r0,r1,x0,x1⟩:=A1 ((bC.block (w.heap.size+1) aQ).trans aC.out.2.2);have aS:=Lq7 (Ij bC);clear bC))
      go_wp2_with fail;go_roundw
      case rel=>
       (repeat apply Exists.intro)
       refine⟨?_,rfl⟩;obtain⟨⟨g1,g2,g3,g4⟩,g5⟩:=bJ.out;generalize passL (ln,cl) (s'.data.toList.take n)=q at *;refine⟨acc,s'.extract n s'.size,q.1,q.2,_,rfl,rfl,by omega,g1,g3,by omega,by omega,by first|omega|(simp only[lnA,List.length_singleton];omega),Lq7 ?_,Lq7 ?_,Lq7 ?_⟩
       ·rw[bS.out];exact bD.out
       ·refine(aD.out.below aS.out).keep (fun b hb hF=>?_) (by simp);have bA:w.heap.size+2<=b:=by
         rcases hF with hF|hF
         ·exact hF
         ·exact((aD.out.below aS.out).block_lt hF).1
        rw[Af (by omega),Af (by omega)]
       ·refine⟨((aC.out.1.trans (aS.out.mono aC.out.1.size)).setCell (p:=⟨w.heap.size+1,0,none⟩) (by simp) _).setCell (p:=⟨w.heap.size+1,1,none⟩) (by simp) _,?_,?_⟩
        ·rw[Af (by omega),Af (by omega),aS.out.block _ (by have:=aC.out.1.size;have:=(agS.1 aC.out.2.1).1;exact this)];exact aC.out.2.1
        ·have h5:=(aS.out.block (w.heap.size+1) aQ).trans aC.out.2.2;exact Al (Al h5 0 (.int .i64 q.1)) 1 (.int .i64 q.2)
      case measure=>
       have:=bJ.out.2;show(s'.extract n s'.size).size<s'.size;omega
   ·have hne:s'.toList.isEmpty=true:=by
     rw[Lq8,List.isEmpty_iff];exact List.length_eq_zero_iff.1 (by rw[Av];omega)
    obtain⟨hb,hr,hp⟩:=aA.out;obtain⟨aU,q0,q1,z0,z1⟩:=A1 hr;have Hb:=Lq7 hb;have Hst:Hid (Bt (s.data.toList.length+1) (1,1) s.data.toList = .ok acc):=Lq7 (by
     have h:=bF.out;rw[show s'.data.toList=[] from List.length_eq_zero_iff.1 (by rw[Av];omega)] at h;exact h.stop)
    obtain⟨a,cap,hva,hcap,bL⟩:=hown.out.rowAtC (fun g hg=>(hown.out.block_lt hg).1);have bV:=Lq7 bL;have bM:=Lq7 hcap;clear hb hr hp bF bL hcap;go_wp2_with fail;refine bodyPost_ret (v:=.tuple #[.slice a acc.length cap,.int .i64 0,.agg #[.int .i64 0,.int .i64 0]]) (by simp[results,Tryz.results23,go_sem,q0,q1]) rfl ?_;rw[Hr.out,Hst.out];have aJ:=(Hb.out.setCell (p:=⟨w.heap.size,0,none⟩) (nlr _) (.int .i64 0)).setCell (p:=⟨w.heap.size,1,none⟩) (nlr _) (.int .i64 0);refine⟨aJ,a,cap,rfl,⟨by have:=bM.out.1;simpa using this,bM.out.2⟩,bV.out.mono fun b hb hl=>⟨by omega,by simpa using hl,?_⟩⟩;rw[Af (by omega),Af (by omega)]
def tokV(t:Tok):Value:=.agg #[.int .i64 t.kind,.string t.text,.int .i64 t.line,.int .i64 t.col]
def PS(w:World)(bp:Nat)(en:Int×Int)(ts:List Tok)(dp:Int):Prop:=
 ∃a cap,w.heap[bp]? = some (.cells #[.slice a ts.length cap,.int .i64 en.1,.int .i64 en.2,.int .i64 dp] 68 (0,0))/\(ts.length<=cap/\ts.length<=70000)/\cap<=maxLen/\Ag (fun b=>b<bp) w a (ts.map Jh)
def ptr(bp:Nat):Value:=.pointer (some ⟨bp,0,none⟩)
theorem PS.grown{w w' bp en ts dp}(h:PS w bp en ts dp)(hb:Below w.heap.size w w'):PS w' bp en ts dp:=by
 obtain⟨a,cap,h1,h2,h3,h4⟩:=h;exact⟨a,cap,(hb.block _ (agS.1 h1).1).trans h1,h2,h3,h4.below hb⟩
theorem tok_at{F:Nat->Prop}{w:World}{a:Option Addr}{ts:List Tok}(h:Ag F w a (ts.map Jh)){k:Nat}{t:Tok}(ht:ts[k]? = some t):
  ∃b off,a=some ⟨b,off,none⟩/\F b/\b<w.heap.size/\w.cell? ⟨b,off+k*4,none⟩=some (.int .i64 t.kind)/\w.cell? ⟨b,off+k*4+1,none⟩=some (.string t.text)/\w.cell? ⟨b,off+k*4+2,none⟩=some (.int .i64 t.line)/\w.cell? ⟨b,off+k*4+3,none⟩=some (.int .i64 t.col):=by
 obtain⟨b,off,cs,ha,hF,hb,hd,hc⟩:=h k (Jh t) (by rw[lgP,ht];rfl);unfold Jh at hd hc;obtain⟨c0,cs,rfl,h0,hd⟩:=hd.cons_inv;obtain⟨c1,cs,rfl,h1,hd⟩:=hd.cons_inv;obtain⟨c2,cs,rfl,h2,hd⟩:=hd.cons_inv;obtain⟨c3,cs,rfl,h3,hd⟩:=hd.cons_inv;obtain rfl:=h0.one_inv;obtain rfl:=h1.one_inv;obtain rfl:=h2.one_inv;obtain rfl:=h3.one_inv;exact⟨b,off,ha,hF,hb,hc 0 _ rfl,hc 1 _ rfl,hc 2 _ rfl,hc 3 _ rfl⟩
def PTok(t:Tok)(w:World)(e:Ending)(w':World):Prop:=e = .returned (tokV t)/\Below w.heap.size w w'
theorem Es(bp n:Nat)(en:Int×Int)(ts dp)(w:World)(_hn:n<=1000)(hp:PS w bp en ts dp):
  Calls Tryz.prog 83 #[ptr bp,.int .i64 n] w (PTok (Bd en ts n) w):=by
 obtain⟨a,cap,h1,h2,h3,h4⟩:=hp;obtain⟨hbp,hc,hf⟩:=A3 h1;have q0:=hc 0;have q1:=hc 1;have q2:=hc 2;have q3:=hc 3;simp at q0 q1 q2 q3;clear hc hf h1;unfold maxLen at h3;unfold ptr;by_cases hlt:n<ts.length
 ·have Hd:Hid (Bd en ts n=ts[n]):=Lq7 (by unfold Bd;rw[lgE hlt];rfl);obtain⟨b,off,ha,hF,hb,r0,r1,r2,r3⟩:=tok_at h4 (lgE hlt);subst ha;have H4:=Lq7 h4;clear h4;generalize ts[n]=t at Hd r0 r1 r2 r3;have hlt':¬(ts.length:Int)<=(n:Int):=(by omega);go_enter Tryz.func83,Tryz.ntmps83;go_wp2_with fail;refine bodyPost_ret (v:=tokV t) (by simp[tokV,results,Tryz.results83,go_sem]) rfl ?_;rw[Hd.out];exact⟨rfl,(bRf _ _).alloc (nlr _) _⟩
 ·have Hd:Hid (Bd en ts n=⟨0,⟨#[]⟩,en.1,en.2⟩):=Lq7 (by unfold Bd;rw[List.getElem?_eq_none (by omega)];rfl);have hlt':(ts.length:Int)<=(n:Int):=(by omega);clear h4;go_enter Tryz.func83,Tryz.ntmps83;go_wp2_with fail;refine bodyPost_ret (v:=tokV ⟨0,⟨#[]⟩,en.1,en.2⟩) (by simp[tokV,results,Tryz.results83,go_sem]) rfl ?_;rw[Hd.out];exact⟨rfl,(bRf _ _).alloc (nlr _) _⟩
theorem Fc(a b c d w):(Instr.field 70 (.agg #[a,b,c,d]) 0).run Tryz.prog w = .ok a w:=by kernel_rfl
theorem tok_text(a b c d w):(Instr.field 70 (.agg #[a,b,c,d]) 1).run Tryz.prog w = .ok b w:=by kernel_rfl
theorem Sl(a b c d w):(Instr.field 70 (.agg #[a,b,c,d]) 2).run Tryz.prog w = .ok (.agg #[c,d]) w:=by kernel_rfl
def Pa(b:Bool)(w:World)(e:Ending)(w':World):Prop:=e = .returned (.bool b)/\Below w.heap.size w w'
theorem Ci(bp n:Nat)(s)(en:Int×Int)(ts dp)(w:World)(hn:n<=1000)(hp:PS w bp en ts dp):
  Calls Tryz.prog 45 #[ptr bp,.int .i64 n,.string s] w (Pa (Be en ts n s.data.toList) w):=by
 have Hp:=Lq7 hp;clear hp;have Hd:Hid (Be en ts n s.data.toList=((Bd en ts n).kind==4&&(Bd en ts n).text.toList==s.toList)):=Lq7 (by unfold Be;rw[Lq8,Lq8]);have aC:=Lq7 (Es bp n en ts dp w hn Hp.out);have aA:=Lq7 (fun(w1:World) (hb:Below w.heap.size w w1)=>Es bp n en ts dp w1 hn (Hp.out.grown hb));unfold ptr at aC aA |-;generalize Bd en ts n=t at Hd aC aA;cases hk:t.kind==4
 ·have Hk:=Lq7 hk;go_enter Tryz.func45,Tryz.ntmps45;go_wp2_with fail;refine aC.out.mono ?_;rintro e w1 ⟨rfl,aB⟩;unfold tokV;have k0:=Fc;have k1:=tok_text;go_wp2_with fail;go_ret;exact⟨Bs (by rw[Hd.out,Hk.out];rfl),aB⟩
 ·have Hk:=Lq7 hk;go_enter Tryz.func45,Tryz.ntmps45;go_wp2_with fail;refine aC.out.mono ?_;rintro e w1 ⟨rfl,aB⟩;unfold tokV;have k0:=Fc;have k1:=tok_text;go_wp2_with fail;refine(aA.out w1 aB).mono ?_;rintro e w2 ⟨rfl,aD⟩;unfold tokV;go_wp2_with fail;go_ret;exact⟨Bs (by rw[Hd.out,Hk.out,Bool.true_and]),aB.trans (aD.mono aB.size)⟩
theorem Fo(bp s en ts dp w)(hp:PS w bp en ts dp):
  Calls Tryz.prog 84 #[ptr bp,.string s] w (Pa (Bq en ts s.data.toList) w):=by
 have Hp:=Lq7 hp;clear hp;have Hd:Hid (Bq en ts s.data.toList=((Bd en ts 0).kind==1&&(Bd en ts 0).text.toList==s.toList)):=Lq7 (by unfold Bq;rw[Lq8,Lq8]);have aC:=Lq7 (Es bp 0 en ts dp w (by omega) Hp.out);have aA:=Lq7 (fun(w1:World) (hb:Below w.heap.size w w1)=>Es bp 0 en ts dp w1 (by omega) (Hp.out.grown hb));unfold ptr at aC aA |-;generalize Bd en ts 0=t at Hd aC aA;cases hk:t.kind==1
 ·have Hk:=Lq7 hk;go_enter Tryz.func84,Tryz.ntmps84;go_wp2_with fail;refine aC.out.mono ?_;rintro e w1 ⟨rfl,aB⟩;unfold tokV;have k0:=Fc;have k1:=tok_text;go_wp2_with fail;go_ret;exact⟨Bs (by rw[Hd.out,Hk.out];rfl),aB⟩
 ·have Hk:=Lq7 hk;go_enter Tryz.func84,Tryz.ntmps84;go_wp2_with fail;refine aC.out.mono ?_;rintro e w1 ⟨rfl,aB⟩;unfold tokV;have k0:=Fc;have k1:=tok_text;go_wp2_with fail;refine(aA.out w1 aB).mono ?_;rintro e w2 ⟨rfl,aD⟩;unfold tokV;go_wp2_with fail;go_ret;exact⟨Bs (by rw[Hd.out,Hk.out,Bool.true_and]),aB.trans (aD.mono aB.size)⟩
theorem Mt(w:World)(t:TypeId)(zs:List ByteArray):∀j,j<zs.length->(w.alloc (.cells (zs.map Value.string).toArray t)).cell? ⟨w.heap.size,0+j,none⟩=some (.string (zs.getD j ByteArray.empty)):=by
 intro j hj;unfold World.cell?;rw[heap_alloc_new,Nat.zero_add];simp[hj]
theorem I9(zs:List (List UInt8))(s):Lib.containsS (zs.map bs) s=zs.contains s.data.toList:=by
 rw[Bool.eq_iff_iff,Lib.containsS_iff,List.contains_iff_mem,List.mem_map]
 constructor
 ·rintro⟨l,hl,rfl⟩;exact hl
 ·intro h;exact⟨_,h,bytes_ext rfl⟩
theorem Ny(s w):Calls Tryz.prog 94 #[.string s] w (Pa (reservedL.contains s.data.toList) w):=by
 have Hc:=Lq7 (Tryz.slices_Contains_string w.heap.size 0 6 6 (reservedL.map bs) s (w.alloc (.cells ((reservedL.map bs).map Value.string).toArray 9)) (by decide) (by omega) (Mt w 9 (reservedL.map bs)));go_enter Tryz.func94,Tryz.ntmps94;go_wp2_with fail;refine Hc.out.mono ?_;rintro e w1 ⟨rfl,rfl⟩;rw[ltL (by decide),I9];go_wp2_with fail;go_ret;exact⟨Bs (by simp),(bRf _ w).alloc (nlr _) _⟩
theorem Qr(s w):Calls Tryz.prog 98 #[.string s] w (Pa (typesL.contains s.data.toList) w):=by
 have Hc:=Lq7 (Tryz.slices_Contains_string w.heap.size 0 6 6 (typesL.map bs) s (w.alloc (.cells ((typesL.map bs).map Value.string).toArray 9)) (by decide) (by omega) (Mt w 9 (typesL.map bs)));go_enter Tryz.func98,Tryz.ntmps98;go_wp2_with fail;refine Hc.out.mono ?_;rintro e w1 ⟨rfl,rfl⟩;rw[ltL (by decide),I9];go_wp2_with fail;go_ret;exact⟨Bs (by simp),(bRf _ w).alloc (nlr _) _⟩
theorem Dj(bp en ts dp w)(hp:PS w bp en ts dp):
  Calls Tryz.prog 86 #[ptr bp] w (Pa (Bj en ts) w):=by
 have Hp:=Lq7 hp;clear hp;have Hd:Hid (Bj en ts=((Bd en ts 0).kind==1 && !reservedL.contains (Bd en ts 0).text.data.toList)):=Lq7 rfl;have aC:=Lq7 (Es bp 0 en ts dp w (by omega) Hp.out);have aA:=Lq7 (fun(w1:World) (hb:Below w.heap.size w w1)=>Es bp 0 en ts dp w1 (by omega) (Hp.out.grown hb));unfold ptr at aC aA |-;generalize Bd en ts 0=t at Hd aC aA;cases hk:t.kind==1
 ·have Hk:=Lq7 hk;go_enter Tryz.func86,Tryz.ntmps86;go_wp2_with fail;refine aC.out.mono ?_;rintro e w1 ⟨rfl,aB⟩;unfold tokV;have k0:=Fc;have k1:=tok_text;go_wp2_with fail;go_ret;exact⟨Bs (by rw[Hd.out,Hk.out];rfl),aB⟩
 ·have Hk:=Lq7 hk;go_enter Tryz.func86,Tryz.ntmps86;go_wp2_with fail;refine aC.out.mono ?_;rintro e w1 ⟨rfl,aB⟩;unfold tokV;have k0:=Fc;have k1:=tok_text;go_wp2_with fail;refine(aA.out w1 aB).mono ?_;rintro e w2 ⟨rfl,hb2⟩;unfold tokV;go_wp2_with fail;refine(Ny t.text _).mono ?_;rintro e w3 ⟨rfl,hb3⟩;have aD:=aB.trans (hb2.mono aB.size);go_wp2_with fail;go_ret;exact⟨Bs (by rw[Hd.out,Hk.out,Bool.true_and];simp),aD.trans (hb3.mono aD.size)⟩
def Jn(e l c:Int):Value:=.iface 63 (.agg #[.int .i64 e,.int .i64 l,.int .i64 c])
def PP{α:Type}(bp:Nat)(en:Int×Int)(val:α->World->Value->Prop)(r:PR α)(w:World)(e:Ending)(w':World):Prop:=
 w.grownBy w' (some bp)/\match r with
  | .ok x ts dp=>PS w' bp en ts dp/\∃v,e = .returned v/\val x w' v
  | .err a l c=>e = .panicked [{ v:=Jn a l c,recovered:=false}]
  | .out=>True
theorem Pb(bp n en ts dp w)(hp:PS w bp en ts dp):
  Calls Tryz.prog 124 #[ptr bp,.int .i64 n] w (fun e w'=>e = .panicked [{ v:=Jn n (Bd en ts 0).line (Bd en ts 0).col,recovered:=false}]/\Below w.heap.size w w'):=by
 have aA:=Lq7 (Es bp 0 en ts dp w (by omega) hp);unfold ptr at aA |-;generalize Bd en ts 0=t at aA |-;go_enter Tryz.func124,Tryz.ntmps124;go_wp2_with fail;refine aA.out.mono ?_;rintro e w1 ⟨rfl,aB⟩;unfold tokV;have k2:=Sl;go_wp2_with fail;exact⟨rfl,rfl,aB⟩
theorem Ag.grown{w w' bp a l}(h:Ag (fun b=>b<bp) w a l)(hg:w.grownBy w' (some bp)):Ag (fun b=>b<bp) w' a l:=
 h.mono fun b hb hl=>⟨hb,nll hl hg.size,hg.block b hl (fun e=>by cases e;omega)⟩
theorem PS.of_set{w w1:World}{bp:Nat}{en:Int×Int}{ts:List Tok}{dp:Int}{l0 e1 e2 d0:Value}{a:Option Addr}{cap:Nat}(hb:Below w.heap.size w w1)(h1:w.heap[bp]? = some (.cells #[l0,e1,e2,d0] 68 (0,0)))
  (he1:e1 = .int .i64 en.1) (he2:e2 = .int .i64 en.2) (hd:d0 = .int .i64 dp) (hc:ts.length<=cap/\ts.length<=70000) (hm:cap<=maxLen) (h4:Ag (fun b=>b<bp) w a (ts.map Jh)) (x0 x1 x2 x3:Value) (o:Obj):
  let X:=((((((w1.setCell ⟨bp,0,none⟩ (.slice a ts.length cap)).setCell ⟨w.heap.size,0,none⟩ x0).setCell ⟨w.heap.size,1,none⟩ x1).setCell ⟨w.heap.size,2,none⟩ x2).setCell ⟨w.heap.size,3,none⟩ x3).alloc o)
  w.grownBy X (some bp)/\PS X bp en ts dp:=by
 intro X;have aE:=(agS.1 h1).1;have aF:bp<w1.heap.size:=nll aE hb.size;have hg:w.grownBy X (some bp):=Ef (De (De (De (De (D3 (Bh hb) _ _) (nlr _) _ _) (nlr _) _ _) (nlr _) _ _) (nlr _) _ _) o;refine⟨hg,a,cap,?_,hc,hm,h4.grown hg⟩;show((((((w1.setCell ⟨bp,0,none⟩ (.slice a ts.length cap)).setCell ⟨w.heap.size,0,none⟩ x0).setCell ⟨w.heap.size,1,none⟩ x1).setCell ⟨w.heap.size,2,none⟩ x2).setCell ⟨w.heap.size,3,none⟩ x3).alloc o).heap[bp]? = _;rw[Below.heap_alloc _ _ _ (by simpa using aF),Af (by omega),Af (by omega),Af (by omega),Af (by omega),Al ((hb.block bp aE).trans h1) 0 (.slice a ts.length cap),he1,he2,hd];rfl
def VTok(t:Tok)(_:World)(v:Value):Prop:=v=tokV t
theorem Bn(bp is en ts dp w)(hp:PS w bp en ts dp)(hr:Bb en is ts dp ≠ .out):
  Calls Tryz.prog 85 #[ptr bp,.bool is] w (PP bp en VTok (Bb en is ts dp) w):=by
 cases is with
 | false=>
  have aG:Bb en false ts dp = .err 3 (Bd en ts 0).line (Bd en ts 0).col:=rfl;rw[aG];have Hf:=Lq7 (fun(w1:World) (hb:Below w.heap.size w w1)=>Pb bp 3 en ts dp w1 (hp.grown hb));unfold ptr at Hf |-;generalize Bd en ts 0=t at Hf |-;go_enter Tryz.func85,Tryz.ntmps85;go_wp2_with fail;refine(Hf.out _ ((bRf _ w).alloc (nlr _) _)).mono ?_;rintro e w1 ⟨rfl,aB⟩;exact⟨rfl,Bh (((bRf _ w).alloc (nlr _) _).trans (aB.mono (by simp))),rfl⟩
 | true=>
  cases ts with
  | nil=>exact absurd rfl hr
  | cons t r=>
   have aG:Bb en true (t::r) dp = .ok t r dp:=rfl;rw[aG];have Hp:=Lq7 hp;have aA:=Lq7 (fun(w1:World) (hb:Below w.heap.size w w1)=>Es bp 0 en (t::r) dp w1 (by omega) (hp.grown hb));rw[show Bd en (t::r) 0=t from rfl] at aA;obtain⟨a,cap,h1,h2,h3,h4⟩:=Hp.out;obtain⟨b,off,ha,hF,hbl,-⟩:=tok_at h4 (k:=0) (t:=t) rfl;subst ha;have H4:=Lq7 h4;have H1:=Lq7 h1;simp only[lnC] at h2;unfold maxLen at h3;unfold ptr at aA |-;go_enter Tryz.func85,Tryz.ntmps85;go_wp2_with fail;have aH:Below w.heap.size w (w.alloc (.cells #[.int .i64 0,.string ⟨#[]⟩,.int .i64 0,.int .i64 0] 70)):=(bRf _ w).alloc (nlr _) _;refine(aA.out _ aH).mono ?_;rintro e w1 ⟨rfl,aB⟩;have aC:=aH.trans (aB.mono aH.size);obtain⟨aE,hc,hf⟩:=A3 ((aC.block bp (agS.1 H1.out).1).trans H1.out);obtain⟨aI,hc',hf'⟩:=A3 (D2 aB);have q0:=hc 0;have z0:=hf 0;have r0:=hc' 0;have r1:=hc' 1;have r2:=hc' 2;have r3:=hc' 3;have y0:=hf' 0;have y1:=hf' 1;have y2:=hf' 2;have y3:=hf' 3;simp at q0 r0 r1 r2 r3;have hbpw:=(agS.1 H1.out).1;have Hb:=Lq7 aC;unfold tokV;have h2':(1:Int)<=(r.length:Int)+1:=(by omega);by_cases hcap:cap=1
   ·subst hcap;have hr0:r=[]:=List.length_eq_zero_iff.1 (by omega);subst hr0;go_wp2_with fail;refine bodyPost_ret (v:=tokV t) (by simp[tokV,results,Tryz.results85,go_sem,r0,r1,r2,r3,aI]) rfl ?_;obtain⟨g1,g2⟩:=PS.of_set (ts:=[]) (a:=some ⟨b,off,none⟩) (cap:=0) Hb.out H1.out rfl rfl rfl ⟨nlr _,nlz _⟩ (nlz _) (Ag.nil _) (.int .i64 t.kind) (.string t.text) (.int .i64 t.line) (.int .i64 t.col) (.cells #[.int .i64 t.kind,.string t.text,.int .i64 t.line,.int .i64 t.col] 70);exact⟨g1,g2,_,rfl,rfl⟩
   ·have hcap2:¬cap=1:=hcap;go_wp2_with fail;refine bodyPost_ret (v:=tokV t) (by simp[tokV,results,Tryz.results85,go_sem,r0,r1,r2,r3,aI]) rfl ?_;have aD:Ag (fun b=>b<bp) w (some ⟨b,off+4,none⟩) (r.map Jh):=by
     have:=H4.out.drop (n:=4) (fun ds hds=>by obtain⟨x,-,rfl⟩:=List.mem_map.1 hds;rfl) 1
     simpa using this
    obtain⟨g1,g2⟩:=PS.of_set (ts:=r) (a:=some ⟨b,off+4,none⟩) (cap:=cap - 1) Hb.out H1.out rfl rfl rfl (by omega) (by unfold maxLen;omega) aD (.int .i64 t.kind) (.string t.text) (.int .i64 t.line) (.int .i64 t.col) (.cells #[.int .i64 t.kind,.string t.text,.int .i64 t.line,.int .i64 t.col] 70);exact⟨g1,g2,_,rfl,rfl⟩
theorem B8{α β}{m:PM α}{f:α->PM β}{ts ts' d d'}{x:α}(h:m ts d = .ok x ts' d'):PM.bind m f ts d=f x ts' d':=by unfold PM.bind;rw[h]
theorem Fd{α β}{m:PM α}{f:α->PM β}{ts d a b c}(h:m ts d = .err a b c):PM.bind m f ts d = .err a b c:=by unfold PM.bind;rw[h]
theorem C3{α β}{m:PM α}{f:α->PM β}{ts d}(h:m ts d = .out):PM.bind m f ts d = .out:=by unfold PM.bind;rw[h]
theorem PS.kept{w w' bp en ts dp}(h:PS w bp en ts dp)(hb:w'.heap[bp]? = w.heap[bp]?)(hk:∀b,b<bp->b<w.heap.size->w'.heap[b]? = w.heap[b]?)(hs:w.heap.size<=w'.heap.size):PS w' bp en ts dp:=by
 obtain⟨a,cap,h1,h2,h3,h4⟩:=h;exact⟨a,cap,hb.trans h1,h2,h3,h4.mono fun b hF hl=>⟨hF,nll hl hs,hk b hF hl⟩⟩
def VUnit(_:Unit)(_:World)(v:Value):Prop:=v = .tuple #[]
theorem D7(bp s en ts dp w)(hp:PS w bp en ts dp)(hr:Cs en s.data.toList ts dp ≠ .out):
  Calls Tryz.prog 91 #[ptr bp,.string s] w (PP bp en VUnit (Cs en s.data.toList ts dp) w):=by
 have Hs:=Lq7 (Ci bp 0 s en ts dp w (by omega) hp);have Ht:=Lq7 (fun(w1:World) (hb:Below w.heap.size w w1) (is:Bool) (h:Bb en is ts dp ≠ .out)=>Bn bp is en ts dp w1 (hp.grown hb) h);have He:Hid (Cs en s.data.toList ts dp=PM.bind (Bb en (Be en ts 0 s.data.toList)) (fun _=>PM.pure ()) ts dp):=Lq7 rfl;have Hr:=Lq7 hr;unfold ptr at Hs Ht |-;generalize Be en ts 0 s.data.toList=b at Hs He;go_enter Tryz.func91,Tryz.ntmps91;go_wp2_with fail;refine Hs.out.mono ?_;rintro e w1 ⟨rfl,aD⟩;have aE:Bb en b ts dp ≠ .out:=fun h=>Hr.out (by rw[He.out,C3 h]);have aB:=Lq7 (Ht.out w1 aD b aE);go_wp2_with fail;refine aB.out.mono ?_;rintro e w2 ⟨aA,hq⟩;have Hg:Hid (w.grownBy w2 (some bp)):=Lq7 (Ae (Bh aD) aA);cases hm:Bb en b ts dp with
 | out=>exact absurd (by rw[He.out,C3 hm]) Hr.out
 | err a l c=>
  rw[hm] at hq;obtain rfl:=hq;rw[He.out,Fd hm];exact⟨rfl,Hg.out,rfl⟩
 | ok x ts' d'=>
  rw[hm] at hq;obtain⟨aG,v,rfl,hv⟩:=hq;have aH:=Lq7 aG;have Hf:Hid (Cs en s.data.toList ts dp = .ok () ts' d'):=Lq7 (by rw[He.out,B8 hm];rfl);go_wp2_with fail
  go_end0
  rw[Hf.out];exact⟨Hg.out,aH.out,_,rfl,rfl⟩
theorem Ga(bp s en ts dp w)(hd0:0<=dp)(hd1:dp<=1000)(hp:PS w bp en ts dp)(hr:Cj en s.data.toList ts dp ≠ .out):
  Calls Tryz.prog 127 #[ptr bp,.string s] w (PP bp en VUnit (Cj en s.data.toList ts dp) w):=by
 have aE:Cs en s.data.toList ts dp ≠ .out:=fun h=>hr (by unfold Cj;rw[C3 h]);have aB:=Lq7 (D7 bp s en ts dp w hp aE);have hdd:∀x ts' d',Cs en s.data.toList ts dp = .ok x ts' d'->d'=dp:=by
  intro x ts' d' h;unfold Cs PM.bind Bb at h;split at h
  ·rename_i h2
   split at h2
   ·split at h2
    ·cases h2
    ·cases h2;cases h;rfl
   ·cases h2
  ·cases h
  ·cases h
 have Hdd:=Lq7 hdd;have Hne:=Lq7 aE;unfold ptr at aB |-;cases hm:Cs en s.data.toList ts dp with
 | out=>exact absurd hm Hne.out
 | err a l c=>
  have Hf:Hid (Cj en s.data.toList ts dp = .err a l c):=Lq7 (by unfold Cj;rw[Fd hm]);rw[hm] at aB;rw[Hf.out];go_enter Tryz.func127,Tryz.ntmps127;go_wp2_with fail;refine aB.out.mono ?_;rintro e w2 ⟨aA,rfl⟩;exact⟨rfl,aA,rfl⟩
 | ok x ts' d'=>
  obtain rfl:=Hdd.out _ _ _ hm;have Hf:Hid (Cj en s.data.toList ts d' = .ok () ts' (d' - 1)):=Lq7 (by unfold Cj;rw[B8 hm];rfl);rw[hm] at aB;rw[Hf.out];go_enter Tryz.func127,Tryz.ntmps127;go_wp2_with fail;refine aB.out.mono ?_;rintro e w2 ⟨aA,⟨a,cap,h1,h2,h3,h4⟩,v,rfl,-⟩;obtain⟨aI,hc,hf⟩:=A3 h1;have q3:=hc 3;have z3:=hf 3;simp at q3;have H1:=Lq7 h1;have H4:=Lq7 h4;go_wp2_with fail
  go_end0
  refine⟨D3 aA 3 _,⟨a,cap,Al H1.out 3 _,h2,h3,H4.out.grown (D3 (Dd _ _) 3 _)⟩,_,rfl,rfl⟩
theorem Gb(bp is en ts dp w)(hd0:0<=dp)(hd1:dp<=1000)(hp:PS w bp en ts dp)(hr:Cn en is ts dp ≠ .out):
  Calls Tryz.prog 126 #[ptr bp,.bool is] w (PP bp en VTok (Cn en is ts dp) w):=by
 have aJ:Below w.heap.size w (w.alloc (.cells #[.int .i64 0,.string ⟨#[]⟩,.int .i64 0,.int .i64 0] 70)):=(bRf _ w).alloc (nlr _) _;by_cases hc:is=true/\60<=dp
 ·obtain⟨rfl,hge⟩:=hc;have aM:Cn en true ts dp = .err 6 (Bd en ts 0).line (Bd en ts 0).col:=(by unfold Cn;rw[Bool.true_and,decide_eq_true hge,if_pos rfl];rfl);rw[aM];have Hf:=Lq7 (fun(w1:World) (hb:Below w.heap.size w w1)=>Pb bp 6 en ts dp w1 (hp.grown hb));obtain⟨a,cap,h1,-,-,-⟩:=hp;obtain⟨aI,aN,hf⟩:=A3 h1;have q3:=aN 3;simp at q3;unfold ptr at Hf |-;generalize Bd en ts 0=t at Hf |-;go_enter Tryz.func126,Tryz.ntmps126;go_wp2_with fail;refine(Hf.out _ aJ).mono ?_;rintro e w1 ⟨rfl,aD⟩;exact⟨rfl,Bh (aJ.trans (aD.mono aJ.size)),rfl⟩
 ·have aM:Cn en is ts dp=Bb en is ts (dp+1):=by
   unfold Cn;cases is with
   | false=>rfl
   | true=>rw[Bool.true_and,decide_eq_false (fun h=>hc ⟨rfl,h⟩)];rfl
  rw[aM] at hr |-;have Hp:=Lq7 hp;have Ht:=Lq7 (fun(w1:World) (h:PS w1 bp en ts (dp+1))=>Bn bp is en ts (dp+1) w1 h hr);obtain⟨a,cap,h1,h2,h3,h4⟩:=hp;obtain⟨aI,aN,hf⟩:=A3 h1;have q3:=aN 3;have z3:=hf 3;simp at q3;have H1:=Lq7 h1;have H4:=Lq7 h4;have Hr:=Lq7 hr;have aC:is=false\/(is=true/\¬60<=dp):=by
   cases is with
   | false=>exact .inl rfl
   | true=>exact .inr ⟨rfl,fun h=>hc ⟨rfl,h⟩⟩
  unfold ptr at Ht |-;rcases aC with rfl|⟨rfl,hlt⟩
  all_goals
   go_enter Tryz.func126,Tryz.ntmps126;go_wp2_with fail;obtain⟨W3,aF⟩:∃W3,W3=(w.setCell ⟨bp,3,none⟩ (.int .i64 (dp+1))).alloc (.cells #[.int .i64 0,.string ⟨#[]⟩,.int .i64 0,.int .i64 0] 70):=⟨_,rfl⟩;rw[<-aF];have aS:w.grownBy W3 (some bp):=(by rw[aF];exact Ef (D3 (Dd w _) 3 _) _);have aQ:PS W3 bp en ts (dp+1):=by
    refine⟨a,cap,?_,h2,h3,H4.out.grown aS⟩;rw[aF,Below.heap_alloc _ _ _ (by simpa using aI)];exact Al H1.out 3 _
   have hr3:W3.heap[w.heap.size]? = some (.cells #[.int .i64 0,.string ⟨#[]⟩,.int .i64 0,.int .i64 0] 70 (0,0)):=by
    rw[aF];have:=heap_alloc_new (w.setCell ⟨bp,3,none⟩ (.int .i64 (dp+1))) (.cells #[.int .i64 0,.string ⟨#[]⟩,.int .i64 0,.int .i64 0] 70)
    simpa using this
   have aR:=Lq7 (aIn aS hr3);have Ht3:=Lq7 (Ht.out W3 aQ);refine Ht3.out.mono ?_;rintro e w2 ⟨aA,hq⟩;have Hg:Hid (w.grownBy w2 (some bp)):=Lq7 (Ae aR.out.1 aA);obtain⟨hbr,hcs',hf'⟩:=A3 ((aA.block _ (agS.1 aR.out.2).1 (by intro e;cases e;omega)).trans aR.out.2);have r0:=hcs' 0;have r1:=hcs' 1;have r2:=hcs' 2;have r3:=hcs' 3;have y0:=hf' 0;have y1:=hf' 1;have y2:=hf' 2;have y3:=hf' 3;simp at r0 r1 r2 r3;cases hm:Bb en _ ts (dp+1) with
   | out=>exact absurd hm Hr.out
   | err x l c=>
    rw[hm] at hq;obtain rfl:=hq;exact⟨rfl,Hg.out,rfl⟩
   | ok x ts' d'=>
    rw[hm] at hq;obtain⟨aG,v,rfl,rfl⟩:=hq;have aH:=Lq7 aG;have Hm:=Lq7 hm;unfold tokV;go_wp2_with fail;refine bodyPost_ret (v:=tokV x) (by simp[tokV,results,Tryz.results126,go_sem,r0,r1,r2,r3]) rfl ?_;rw[Hm.out];have hbw:bp≠w.heap.size:=(by omega);have aU:∀b,b≠w.heap.size->((((w2.setCell ⟨w.heap.size,0,none⟩ (.int .i64 x.kind)).setCell ⟨w.heap.size,1,none⟩ (.string x.text)).setCell ⟨w.heap.size,2,none⟩ (.int .i64 x.line)).setCell ⟨w.heap.size,3,none⟩ (.int .i64 x.col)).heap[b]? = w2.heap[b]?:=fun b hb=>by
     rw[Af hb,Af hb,Af hb,Af hb]
    exact⟨De (De (De (De Hg.out (nlr _) _ _) (nlr _) _ _) (nlr _) _ _) (nlr _) _ _,aH.out.kept (aU _ hbw) (fun b hb _=>aU b (by omega)) (by simp),_,rfl,rfl⟩
def Cx(kind:Int)(t:Tok)(text:ByteArray)(a:Option Addr)(n cap:Nat):Value:=.agg #[.int .i64 kind,.string text,.int .i64 t.line,.int .i64 t.col,.slice a n cap]
theorem Bo(kind t text a n cap w):
  Calls Tryz.prog 26 #[.int .i64 kind,tokV t,.string text,.slice a n cap] w (fun e w'=>e = .returned (Cx kind t text a n cap)/\Below w.heap.size w w'):=by
 unfold tokV Cx;go_enter Tryz.func26,Tryz.ntmps26;go_wp2_with fail;refine bodyPost_ret (v:=Cx kind t text a n cap) (by simp[Cx,results,Tryz.results26,go_sem]) rfl ?_;exact⟨rfl,((bRf _ w).alloc (nlr _) _).alloc (by simp) _⟩
def Cy(B:Nat)(x:Nd)(w:World)(v:Value):Prop:=A0 (fun b=>B<=b) w x v
def Kd(B:Nat)(l:List Nd)(w:World)(v:Value):Prop:=∃a cap,v = .slice a l.length cap/\Ag (fun b=>B<=b) w a (Az l)
def VOwn(B:Nat)(l:List Nd)(w:World)(v:Value):Prop:=Bp (fun b=>B<=b) w B 43 5 v (Az l)/\l.length<=200000
theorem VOwn.row{B l w v}(h:VOwn B l w v):Kd B l w v:=by
 obtain⟨a,cap,bC,aG⟩:=h.1.rowAt (fun g hg=>(h.1.block_lt hg).1);rw[Am] at bC;exact⟨a,cap,bC,aG⟩
theorem PP.weaker{α bp en}{val val':α->World->Value->Prop}{r:PR α}{w w' e}(h:PP bp en val r w e w')(hv:∀x v,val x w' v->val' x w' v):PP bp en val' r w e w':=by
 refine⟨h.1,?_⟩;have h2:=h.2;cases r with
 | ok x ts dp=>obtain⟨h3,v,h4,h5⟩:=h2;exact⟨h3,v,h4,hv x v h5⟩
 | err a l c=>exact h2
 | out=>trivial
def Dv{α:Type}(f bp:Nat)(en:Int×Int)(val:Nat->α->World->Value->Prop)(m:PM α):Prop:=
 ∀(w:World) (ts:List Tok) (dp:Int),PS w bp en ts dp->0<=dp->dp<=1000->m ts dp ≠ .out->Calls Tryz.prog f #[ptr bp] w (PP bp en (val w.heap.size) (m ts dp) w)
theorem PS.lt{w bp en ts dp}(h:PS w bp en ts dp):bp<w.heap.size:=let ⟨_,_,h1,_⟩:=h;(agS.1 h1).1
theorem PS.few{w bp en ts dp}(h:PS w bp en ts dp):ts.length<=70000:=let ⟨_,_,_,h2,_⟩:=h;h2.2
theorem PS.own{w w':World}{bp:Nat}{en:Int×Int}{ts:List Tok}{dp:Int}{v:Value}(h:PS w bp en ts dp)(k:w.grownBy w' v.ownBlock)(hv:∀g,v.ownBlock=some g->bp<g):PS w' bp en ts dp:=
 h.kept (k.block bp h.lt (fun e=>by have:=hv bp e.symm;omega)) (fun b hb hl=>k.block b hl (fun e=>by have:=hv b e.symm;omega)) k.size
theorem Pc(bp tt f fa lb one en ts dp w)(hd0:0<=dp)(hd1:dp<=1000)(hp:PS w bp en ts dp)(henter:∀(args:Array Value) (w:World),(callFunc f args).run Tryz.prog w = .ok (.enter f args) w)(hone:∀(w1:World) (ts1:List Tok),w.grownBy w1 (some bp)->PS w1 bp en ts1 dp->one ts1 dp ≠ .out->Calls Tryz.prog f (fa++lb) w1 (PP bp en (Kd w1.heap.size) (one ts1 dp) w1))(hinc:Inc 0 one)(hlen:∀ts d l ts' d',one ts d = .ok l ts' d'->l≠[]/\l.length<=2)(hr:Ck en tt.data.toList one ts dp ≠ .out):
  Calls Tryz.prog 128 #[ptr bp,.string tt,.func (.func f) fa lb] w (PP bp en (VOwn w.heap.size) (Ck en tt.data.toList one ts dp) w):=by
 obtain⟨i0,hi,bP,bQ,bR⟩:=info_parts infoNode;have hfew:=hp.few;have hbpl:=hp.lt;have Hp:=Lq7 hp;have bD:=Lq7 hone;have bE:=Lq7 hlen;have Hr:=Lq7 hr;unfold ptr;go_enter Tryz.func128,Tryz.ntmps128;go_wp2_with fail
 go_loopg [7] (ts.length+1) (fun g v wr=>∃(acc:List Nd) (ts1:List Tok) (v':Value),v=v'/\g<=ts.length+1/\acc.length+2*g<=2*(ts.length+1)/\Hid (Ck en tt.data.toList one ts dp=Cd en tt.data.toList one g acc ts1 dp)/\Hid (w.grownBy wr (some bp)/\PS wr bp en ts1 dp)/\Hid (Bp (fun b=>w.heap.size<=b) wr w.heap.size 43 5 v' (Az acc)))
 case atStart=>exact⟨[],ts,_,rfl,nlr _,by simp,Lq7 rfl,Lq7 ⟨Dd _ _,Hp.out⟩,Lq7 (Bp.nil _ _ _ _ _)⟩
 case round=>
  obtain⟨acc,ts1,v,hv,hg1,bB,aH,bF,hown⟩:=hrel;have hv:=hv.symm;subst hv;cases gk with
  | zero=>exact absurd aH.out Hr.out
  | succ g=>
   have Hs:=Lq7 (Ci bp 0 tt en ts1 dp wr (by omega) bF.out.2);unfold ptr at Hs;cases hb:Be en ts1 0 tt.data.toList
   ·rw[hb] at Hs;have aS:Hid (Ck en tt.data.toList one ts dp=PM.bind (if acc=[] then PM.pure () else Cs en [44]) (fun _=>PM.bind one fun l=>Cd en tt.data.toList one g (acc++l)) ts1 dp):=Lq7 (by rw[aH.out,Cd,B3,hb];rfl);go_wp2_with fail;refine Hs.out.mono ?_;rintro e w1 ⟨rfl,aU⟩;have aE:Hid (w.grownBy w1 (some bp)/\PS w1 bp en ts1 dp):=Lq7 ⟨Ae bF.out.1 (Bh aU),bF.out.2.grown aU⟩;have aA:=Lq7 (hown.out.below aU);obtain⟨a,cap,bC,-⟩:=aA.out.rowAt (fun g hg=>(aA.out.block_lt hg).1);rw[Am] at bC;subst bC;cases acc with
    | nil=>
     have aF:Hid (Ck en tt.data.toList one ts dp=PM.bind one (fun l=>Cd en tt.data.toList one g ([]++l)) ts1 dp):=Lq7 (by rw[aS.out,if_pos rfl];rfl);have bI:one ts1 dp ≠ .out:=fun h=>Hr.out (by rw[aF.out,C3 h]);have Ho:=Lq7 (bD.out w1 ts1 aE.out.1 aE.out.2 bI);have hws:w.heap.size<=w1.heap.size:=aE.out.1.size;go_wp2_with fail;refine Ho.out.mono ?_;rintro e w3 ⟨bG,hq⟩;have aI:=Lq7 (aIn (Ae aE.out.1 bG) bG);cases hm:one ts1 dp with
     | out=>exact absurd (by rw[aF.out,C3 hm]) Hr.out
     | err x l c=>
      rw[hm] at hq;obtain rfl:=hq;have Hf:Hid (Ck en tt.data.toList one ts dp = .err x l c):=Lq7 (by rw[aF.out,Fd hm]);refine⟨rfl,?_⟩;rw[Hf.out];exact⟨aI.out.1,rfl⟩
     | ok l ts3 d3=>
      have bJ:d3=dp:=(by have:=hinc _ _ _ _ _ hm;omega);subst bJ;obtain⟨bL,hl2⟩:=bE.out _ _ _ _ _ hm;rw[hm] at hq;obtain⟨aV,v,rfl,a2,aW,rfl,aG⟩:=hq;have bM:∃b2 aB,a2=some ⟨b2,aB,none⟩:=by
       cases l with
       | nil=>exact absurd rfl bL
       | cons n t=>
        obtain⟨b2,aB,cs,ha,-⟩:=aG 0 (nodeD n) (by rw[B5];rfl);exact⟨b2,aB,ha⟩
      obtain⟨b2,aB,rfl⟩:=bM;have aY:Hid (Ck en tt.data.toList one ts d3=Cd en tt.data.toList one g ([]++l) ts3 d3):=Lq7 (by rw[aF.out,B8 hm]);have aC:Hid (Bp (fun b=>w.heap.size<=b) w3 w.heap.size 43 5 (.slice a 0 cap) (Az [])):=Lq7 (aA.out.keep (fun b hb hF=>aI.out.2.block b hb (by
       intro e;cases e;rcases hF with hF|hF
       ·omega
       ·have:=(aA.out.block_lt hF).1;omega)) aI.out.2.size)
      have aJ:Hid (Ag (fun b=>w.heap.size<=b/\(Value.slice a 0 cap).ownBlock≠some b) w3 (some ⟨b2,aB,none⟩) (Az l)):=Lq7 (aG.wider (fun b hb _=>⟨by omega,fun e=>by have:=(aA.out.block_lt e).2;omega⟩));have aZ:=Lq7 aV
      go_wp2_with (at_builtin;refine Bv rfl _ _ 36 rfl w.heap.size 43 i0 _ 5 64 Tryz.underlying36 hi bP bQ bR rfl (by decide) (.slice a 0 cap) (fun b=>w.heap.size<=b) (Az []) rfl aC.out b2 aB aW (Az l) ?_ aJ.out (B1 Di l) (B1 Dk l) ?_ ?_ ?_ ?_)
      ·rw[Am];rfl
      ·rw[Am,Am];unfold maxLen;simp only[lnN] at bB |-;omega
      ·rw[Am,Am];simp only[lnN] at bB |-;omega
      ·exact aI.out.1.size
      intro v4 w4 aM aD _;have bA:Hid (w.grownBy w4 (some bp)/\PS w4 bp en ts3 d3):=Lq7 ⟨Fe aI.out.1 aD (fun g hg=>(aC.out.block_lt hg).1),aZ.out.own aD (fun g hg=>by have:=(aC.out.block_lt hg).1;omega)⟩;have aN:Hid (Bp (fun b=>w.heap.size<=b) w4 w.heap.size 43 5 v4 (Az ([]++l))):=Lq7 (by rw[nodesD_append];exact aM);go_wp2_with fail
      go_roundg g
      case measure=>omega
      case rel=>exact⟨[]++l,ts3,_,rfl,by omega,by simp only[lnA,lnN] at bB |-;omega,aY,bA,aN⟩
    | cons x0 acc0=>
     have bN:Cs en [44] ts1 dp ≠ .out:=fun h=>Hr.out (by rw[aS.out,if_neg (by simp),C3 h]);have He:=Lq7 (D7 bp ⟨#[44]⟩ en ts1 dp w1 aE.out.2 bN);unfold ptr at He;go_wp2_with fail;refine He.out.mono ?_;rintro e w2 ⟨bS,hq⟩;have bH:=Lq7 (aIn (Ae aE.out.1 bS) bS);cases hm:Cs en [44] ts1 dp with
     | out=>exact absurd (by rw[aS.out,if_neg (by simp),C3 hm]) Hr.out
     | err x l c=>
      rw[hm] at hq;obtain rfl:=hq;have Hf:Hid (Ck en tt.data.toList one ts dp = .err x l c):=Lq7 (by rw[aS.out,if_neg (by simp),Fd hm]);refine⟨rfl,?_⟩;rw[Hf.out];exact⟨bH.out.1,rfl⟩
     | ok u ts2 d2=>
      have hd2:d2=dp:=(by have:=Inc.eat _ _ _ _ _ _ hm;omega);subst hd2;rw[hm] at hq;obtain⟨bO,v,rfl,-⟩:=hq;have aR:=Lq7 (aIn bH.out.1 bO);have aQ:Hid (Bp (fun b=>w.heap.size<=b) w2 w.heap.size 43 5 (.slice a (x0::acc0).length cap) (Az (x0::acc0))):=Lq7 (aA.out.keep (fun b hb hF=>bH.out.2.block b hb (by
       intro e;cases e;rcases hF with hF|hF
       ·omega
       ·have:=(aA.out.block_lt hF).1;omega)) bH.out.2.size)
      have aF:Hid (Ck en tt.data.toList one ts d2=PM.bind one (fun l=>Cd en tt.data.toList one g ((x0::acc0)++l)) ts2 d2):=Lq7 (by rw[aS.out,if_neg (by simp),B8 hm]);have bI:one ts2 d2 ≠ .out:=fun h=>Hr.out (by rw[aF.out,C3 h]);have Ho:=Lq7 (bD.out w2 ts2 aR.out.1 aR.out.2 bI);have hws:w.heap.size<=w2.heap.size:=aR.out.1.size;go_wp2_with fail;refine Ho.out.mono ?_;rintro e w3 ⟨bG,hq⟩;have aI:=Lq7 (aIn (Ae aR.out.1 bG) bG);cases hm:one ts2 d2 with
      | out=>exact absurd (by rw[aF.out,C3 hm]) Hr.out
      | err x l c=>
       rw[hm] at hq;obtain rfl:=hq;have Hf:Hid (Ck en tt.data.toList one ts d2 = .err x l c):=Lq7 (by rw[aF.out,Fd hm]);refine⟨rfl,?_⟩;rw[Hf.out];exact⟨aI.out.1,rfl⟩
      | ok l ts3 d3=>
       have bJ:d3=d2:=(by have:=hinc _ _ _ _ _ hm;omega);subst bJ;obtain⟨bL,hl2⟩:=bE.out _ _ _ _ _ hm;rw[hm] at hq;obtain⟨aV,v,rfl,a2,aW,rfl,aG⟩:=hq;have bM:∃b2 aB,a2=some ⟨b2,aB,none⟩:=by
        cases l with
        | nil=>exact absurd rfl bL
        | cons n t=>
         obtain⟨b2,aB,cs,ha,-⟩:=aG 0 (nodeD n) (by rw[B5];rfl);exact⟨b2,aB,ha⟩
       obtain⟨b2,aB,rfl⟩:=bM;have aY:Hid (Ck en tt.data.toList one ts d3=Cd en tt.data.toList one g ((x0::acc0)++l) ts3 d3):=Lq7 (by rw[aF.out,B8 hm]);have aC:Hid (Bp (fun b=>w.heap.size<=b) w3 w.heap.size 43 5 (.slice a (x0::acc0).length cap) (Az (x0::acc0))):=Lq7 (aQ.out.keep (fun b hb hF=>aI.out.2.block b hb (by
        intro e;cases e;rcases hF with hF|hF
        ·omega
        ·have:=(aQ.out.block_lt hF).1;omega)) aI.out.2.size)
       have aJ:Hid (Ag (fun b=>w.heap.size<=b/\(Value.slice a (x0::acc0).length cap).ownBlock≠some b) w3 (some ⟨b2,aB,none⟩) (Az l)):=Lq7 (aG.wider (fun b hb _=>⟨by omega,fun e=>by have:=(aQ.out.block_lt e).2;omega⟩));have aZ:=Lq7 aV
       go_wp2_with (at_builtin;refine Bv rfl _ _ 36 rfl w.heap.size 43 i0 _ 5 64 Tryz.underlying36 hi bP bQ bR rfl (by decide) (.slice a (x0::acc0).length cap) (fun b=>w.heap.size<=b) (Az (x0::acc0)) rfl aC.out b2 aB aW (Az l) ?_ aJ.out (B1 Di l) (B1 Dk l) ?_ ?_ ?_ ?_)
       ·rw[Am];rfl
       ·rw[Am,Am];unfold maxLen;simp only[lnC] at bB |-;omega
       ·rw[Am,Am];simp only[lnC] at bB |-;omega
       ·exact aI.out.1.size
       intro v4 w4 aM aD _;have bA:Hid (w.grownBy w4 (some bp)/\PS w4 bp en ts3 d3):=Lq7 ⟨Fe aI.out.1 aD (fun g hg=>(aC.out.block_lt hg).1),aZ.out.own aD (fun g hg=>by have:=(aC.out.block_lt hg).1;omega)⟩;have aN:Hid (Bp (fun b=>w.heap.size<=b) w4 w.heap.size 43 5 v4 (Az ((x0::acc0)++l))):=Lq7 (by rw[nodesD_append];exact aM);go_wp2_with fail
       go_roundg g
       case measure=>omega
       case rel=>exact⟨(x0::acc0)++l,ts3,_,rfl,by omega,by simp only[lnA,lnC] at bB |-;omega,aY,bA,aN⟩
   ·rw[hb] at Hs;have aS:Hid (Ck en tt.data.toList one ts dp = .ok acc ts1 dp):=Lq7 (by rw[aH.out,Cd,B3,hb];rfl);go_wp2_with fail;refine Hs.out.mono ?_;rintro e w1 ⟨rfl,aU⟩;have aE:Hid (w.grownBy w1 (some bp)/\PS w1 bp en ts1 dp):=Lq7 ⟨Ae bF.out.1 (Bh aU),bF.out.2.grown aU⟩;have aA:=Lq7 (hown.out.below aU);go_wp2_with fail;go_ret;rw[aS.out];exact⟨aE.out.1,aE.out.2,_,rfl,aA.out,by omega⟩
theorem Ln(bp tt f fa lb one en ts dp w)(hd0:0<=dp)(hd1:dp<=1000)(hp:PS w bp en ts dp)(henter:∀(args:Array Value) (w:World),(callFunc f args).run Tryz.prog w = .ok (.enter f args) w)(hone:∀(w1:World) (ts1:List Tok),w.grownBy w1 (some bp)->PS w1 bp en ts1 dp->one ts1 dp ≠ .out->Calls Tryz.prog f (fa++lb) w1 (PP bp en (Kd w1.heap.size) (one ts1 dp) w1))(hinc:Inc 0 one)(hlen:∀ts d l ts' d',one ts d = .ok l ts' d'->l≠[]/\l.length<=2)(hr:Ck en tt.data.toList one ts dp ≠ .out):
  Calls Tryz.prog 128 #[ptr bp,.string tt,.func (.func f) fa lb] w (PP bp en (Kd w.heap.size) (Ck en tt.data.toList one ts dp) w):=
 (Pc bp tt f fa lb one en ts dp w hd0 hd1 hp henter hone hinc hlen hr).mono fun _ _ h=>PP.weaker h fun _ _ hv=>hv.row
def zeroNode:Array Value:=#[.int .i64 0,.string ⟨#[]⟩,.int .i64 0,.int .i64 0,.slice none 0 0]
def Locs(w:World)(ls:List (Nat×Array Value×TypeId)):Prop:=∀x∈ls,w.heap[x.1]? = some (.cells x.2.1 x.2.2 (0,0))
structure PI(w:World)(bp:Nat)(en:Int×Int)(ts:List Tok)(dp:Int)(ls:List (Nat×Array Value×TypeId))(rows:List (Option Addr×List Nd))(W:World):Prop where
 grown:w.grownBy W (some bp)
 ps:PS W bp en ts dp
 locs:Locs W ls
 own:∀x∈ls,w.heap.size<=x.1
 bpl:bp<w.heap.size
 rows:∀r∈rows,Ag (fun b=>w.heap.size<=b/\∀x∈ls,b≠x.1) W r.1 (Az r.2)
 dist:(ls.map (·.1)).Nodup
section
variable {w W W':World} {bp:Nat} {en:Int×Int} {ts ts':List Tok} {dp dp':Int} {ls:List (Nat×Array Value×TypeId)} {rows:List (Option Addr×List Nd)}
theorem PI.start(h:PS w bp en ts dp):PI w bp en ts dp [] [] w:=⟨Dd _ _,h,(by intro x hx;cases hx),(by intro x hx;cases hx),h.lt,(by intro x hx;cases hx),.nil⟩
theorem Locs.lt(h:Locs W ls){x:Nat×Array Value×TypeId}(hx:x∈ls):x.1<W.heap.size:=(agS.1 (h x hx)).1
theorem PI.below(h:PI w bp en ts dp ls rows W)(hb:Below W.heap.size W W'):PI w bp en ts dp ls rows W':=
 ⟨Ae h.grown (Bh hb),h.ps.grown hb,fun x hx=>(hb.block _ (h.locs.lt hx)).trans (h.locs x hx),h.own,h.bpl,fun r hr=>(h.rows r hr).below hb,h.dist⟩
theorem PI.alloc(h:PI w bp en ts dp ls rows W)(cs:Array Value)(T:TypeId):PI w bp en ts dp ((W.heap.size,cs,T)::ls) rows (W.alloc (.cells cs T)):=by
 obtain⟨h1,h2,h3,h4,h5,h6,h8⟩:=h.below ((bRf _ W).alloc (nlr _) (.cells cs T));refine⟨h1,h2,fun x hx=>?_,fun x hx=>?_,h5,fun r hr=>?_,List.nodup_cons.2 ⟨fun hx=>?_,h8⟩⟩
 ·rcases List.mem_cons.1 hx with rfl|hx
  ·exact heap_alloc_new W _
  ·exact h3 x hx
 ·rcases List.mem_cons.1 hx with rfl|hx
  ·exact h.grown.size
  ·exact h4 x hx
 ·have h7:=(h.rows r hr).here;refine(h7.below ((bRf _ W).alloc (nlr _) (.cells cs T))).wider (fun b hb _=>⟨hb.1.1,fun x hx=>?_⟩);rcases List.mem_cons.1 hx with rfl|hx
  ·exact Nat.ne_of_lt hb.2
  ·exact hb.1.2 x hx
 ·obtain⟨x,hx,e⟩:=List.mem_map.1 hx;have h9:=h.locs.lt hx;have h10:x.1=W.heap.size:=e;omega
theorem PI.call(h:PI w bp en ts dp ls rows W)(hg:W.grownBy W' (some bp))(hp:PS W' bp en ts' dp'):PI w bp en ts' dp' ls rows W':=
 ⟨Ae h.grown hg,hp,fun x hx=>(hg.block _ (h.locs.lt hx) (fun e=>by cases e;have:=h.own x hx;have:=h.bpl;omega)).trans (h.locs x hx),h.own,h.bpl,
  fun r hr=>(h.rows r hr).mono fun b hb hl=>⟨hb,nll hl hg.size,hg.block b hl (fun e=>by cases e;have:=h.bpl;omega)⟩,h.dist⟩
theorem PI.row{B:Nat}{a:Option Addr}{l:List Nd}(h:PI w bp en ts dp ls rows W)(hrow:Ag (fun b=>B<=b) W a (Az l))(hw:w.heap.size<=B)(hB:∀x∈ls,x.1<B):PI w bp en ts dp ls ((a,l)::rows) W:=
 ⟨h.grown,h.ps,h.locs,h.own,h.bpl,fun r hr=>by
  rcases List.mem_cons.1 hr with rfl|hr
  ·exact hrow.wider (fun b hb _=>⟨by omega,fun x hx e=>by have:=hB x hx;omega⟩)
  ·exact h.rows r hr,h.dist⟩
theorem PI.at(h:PI w bp en ts dp ls rows W){b:Nat}{cs:Array Value}{T:TypeId}(hx:(b,cs,T)∈ls):W.heap[b]? = some (.cells cs T (0,0)):=h.locs _ hx
theorem PI.lt(h:PI w bp en ts dp ls rows W):∀x∈ls,x.1<W.heap.size:=fun _ hx=>h.locs.lt hx
theorem PI.drew(h:PI w bp en ts dp ls rows W):PI w bp en ts dp ls rows W.drew:=h.below ((bRf _ W).drew)
theorem PI.set(h:PI w bp en ts dp ls rows W)(j:Nat){b:Nat}{cs:Array Value}{T:TypeId}(hj:ls[j]? = some (b,cs,T))(i:Nat)(v:Value):PI w bp en ts dp (ls.set j (b,cs.setIfInBounds i v,T)) rows (W.setCell ⟨b,i,none⟩ v):=by
 have hm:(b,cs,T)∈ls:=lgM hj;have hb:w.heap.size<=b:=h.own _ hm;have hbp:=h.bpl;have hX:∀k,k≠b->(W.setCell ⟨b,i,none⟩ v).heap[k]? = W.heap[k]?:=fun k hk=>Af hk i v;have aA:∀x∈ls.set j (b,cs.setIfInBounds i v,T),x=(b,cs.setIfInBounds i v,T)\/(x∈ls/\x.1≠b):=fun x hx=>by
  obtain⟨k,hk⟩:=List.mem_iff_getElem?.1 hx;rw[List.getElem?_set] at hk;split at hk
  ·split at hk
   ·exact .inl (Option.some.inj hk).symm
   ·cases hk
  ·rename_i hne
   refine .inr ⟨lgM hk,fun e=>hne ?_⟩;have aB:=(lgS.1 hj).1;have hkl:=(lgS.1 hk).1;refine(List.getElem_inj (h₀:=by simpa using aB) (h₁:=by simpa using hkl) h.dist).1 ?_;have h1:=(lgS.1 hj).2;have h2:=(lgS.1 hk).2;simp only[List.getElem_map,h1,h2,e]
 have aC:(ls.set j (b,cs.setIfInBounds i v,T)).map (·.1)=ls.map (·.1):=by
  rw[List.map_set];refine List.ext_getElem? fun k=>?_;rw[List.getElem?_set];split
  ·rename_i e
   subst e;rw[lgP,hj];simp[(lgS.1 hj).1]
  ·rfl
 refine⟨De h.grown hb i v,h.ps.kept (hX _ (by omega)) (fun k hk _=>hX k (by omega)) (by simp),fun x hx=>?_,fun x hx=>?_,hbp,fun r hr=>?_,by rw[aC];exact h.dist⟩
 ·rcases aA x hx with rfl|⟨hx,hne⟩
  ·exact Al (h.locs _ hm) i v
  ·rw[hX _ hne];exact h.locs x hx
 ·rcases aA x hx with rfl|⟨hx,hne⟩
  ·exact hb
  ·exact h.own x hx
 ·refine(h.rows r hr).mono fun k hk hl=>⟨⟨hk.1,fun x hx=>?_⟩,by simpa using hl,hX k (hk.2 _ hm)⟩;rcases aA x hx with rfl|⟨hx,hne⟩
  ·exact hk.2 (b,cs,T) hm
  ·exact hk.2 x hx
theorem PI.put5(h:PI w bp en ts dp ls rows W)(j:Nat){b:Nat}{x0 x1 x2 x3 x4:Value}{T:TypeId}(hj:ls[j]? = some (b,#[x0,x1,x2,x3,x4],T))(v0 v1 v2 v3 v4:Value):
  PI w bp en ts dp (ls.set j (b,#[v0,v1,v2,v3,v4],T)) rows (((((W.setCell ⟨b,0,none⟩ v0).setCell ⟨b,1,none⟩ v1).setCell ⟨b,2,none⟩ v2).setCell ⟨b,3,none⟩ v3).setCell ⟨b,4,none⟩ v4):=by
 have aB:=(lgS.1 hj).1;have h1:=h.set j hj 0 v0;have h2:=h1.set j (b:=b) (cs:=#[v0,x1,x2,x3,x4]) (T:=T) (by rw[List.getElem?_set_self aB];rfl) 1 v1;rw[List.set_set] at h2;have h3:=h2.set j (b:=b) (cs:=#[v0,v1,x2,x3,x4]) (T:=T) (by rw[List.getElem?_set_self aB];rfl) 2 v2;rw[List.set_set] at h3;have h4:=h3.set j (b:=b) (cs:=#[v0,v1,v2,x3,x4]) (T:=T) (by rw[List.getElem?_set_self aB];rfl) 3 v3;rw[List.set_set] at h4;have h5:=h4.set j (b:=b) (cs:=#[v0,v1,v2,v3,x4]) (T:=T) (by rw[List.getElem?_set_self aB];rfl) 4 v4;rw[List.set_set] at h5;exact h5
theorem PI.less{l2:List (Nat×Array Value×TypeId)}{r2:List (Option Addr×List Nd)}(h:PI w bp en ts dp ls rows W)(h1:l2.Sublist ls)(h2:∀r∈r2,r∈rows):PI w bp en ts dp l2 r2 W:=
 ⟨h.grown,h.ps,fun x hx=>h.locs x (h1.subset hx),fun x hx=>h.own x (h1.subset hx),h.bpl,fun r hr=>(h.rows r (h2 r hr)).wider (fun _ hb _=>⟨hb.1,fun x hx=>hb.2 x (h1.subset hx)⟩),(h1.map _).nodup h.dist⟩
theorem PI.hand(h:PI w bp en ts dp ls rows W){a:Option Addr}{l:List Nd}(hr:(a,l)∈rows):Ag (fun b=>w.heap.size<=b) W a (Az l):=(h.rows (a,l) hr).wider (fun _ hb _=>hb.1)
end
theorem Fx{F:Nat->Prop}{w:World}(k:Int)(t:ByteArray)(l c:Int){kids:List Nd}{a:Option Addr}(cap:Nat)(h:Ag F w a (Az kids))(hk:capK k=true->kids.length<=cap:=by first|exact trivial|(refine Hid.out ?_;assumption)|assumption|(intro _;exact Nat.zero_le _)|(intro h6;exact absurd h6 (by decide))):
  Ay F w (nodeD (.mk k t l c kids)) [.int .i64 k,.string t,.int .i64 l,.int .i64 c,.slice a kids.length cap]:=by
 rw[nodeD];exact .cons (.one _) (.cons (.one _) (.cons (.one _) (.cons (.one _) (.cons (by rw[<-Am kids];exact C9.rowb_mk cap (fun h6=>by rw[Am];exact hk h6) h) .nil))))
theorem Ag.lit{F}{w:World}{b size:Nat}{T cs}(css:List (List Value)){l:List (List Dat)}(hb:w.heap[b]? = some (.cells cs T (0,0)))(hcs:cs.toList=css.flatten)(hF:F b)(hsz:∀c∈css,c.length=size)(hlen:css.length=l.length)(hd:∀(j:Nat) ds c,l[j]? = some ds->css[j]? = some c->Ay F w ds c):Ag F w (some ⟨b,0,none⟩) l:=by
 intro j ds hj;have aB:=(lgS.1 hj).1;have aD:css[j]? = some (css[j]'(by omega)):=lgE _;have ha:=hd j ds _ hj aD;refine⟨b,0,_,rfl,hF,(agS.1 hb).1,ha,fun i u hu=>?_⟩;have h9:=El hsz aD hu;rw[<-hcs,Array.getElem?_toList] at h9;unfold World.cell?;rw[hb,Nat.zero_add,<-ha.1,hsz _ (lgM aD)];exact h9
def CapOk:List (List Value)->List Nd->Prop
 | [_,_,_,_,.slice _ _ cap]::css,.mk k _ _ _ kids::l=>(capK k=true->kids.length<=cap)/\CapOk css l
 | _,_=>True
theorem CapOk.get:∀{css:List (List Value)} {l:List Nd} {j:Nat} {k ln cl:Int} {t:ByteArray} {kids:List Nd} {c0 c1 c2 c3:Value} {a:Option Addr} {n cap:Nat},CapOk css l->l[j]? = some (.mk k t ln cl kids)->css[j]? = some [c0,c1,c2,c3,.slice a n cap]->(∀(i:Nat) (c:List Value) (x:Nd),css[i]? = some c->l[i]? = some x->∃d0 d1 d2 d3 b m e,c=[d0,d1,d2,d3,Value.slice b m e])->capK k=true->kids.length<=cap
 | [],_,_,_,_,_,_,_,_,_,_,_,_,_,_,_,_,hc,_=>by simp at hc
 | _::_,[],_,_,_,_,_,_,_,_,_,_,_,_,_,_,hl,_,_=>by simp at hl
 | c::css,x::l,j,_,_,_,_,_,_,_,_,_,_,_,_,h,hl,hc,hall=>by
  obtain⟨d0,d1,d2,d3,b,m,e,rfl⟩:=hall 0 c x rfl rfl;obtain⟨xk,xt,xl,xc,xs⟩:=x;rw[CapOk] at h;cases j with
  | zero=>
   simp at hl hc;obtain⟨rfl,rfl,rfl,rfl,rfl⟩:=hl;obtain⟨-,-,-,-,-,-,rfl⟩:=hc;exact h.1
  | succ j=>exact CapOk.get h.2 (by simpa using hl) (by simpa using hc) (fun i c x h1 h2=>hall (i+1) c x (by simpa using h1) (by simpa using h2))
theorem PI.lit{w W:World}{bp:Nat}{en:Int×Int}{ts:List Tok}{dp:Int}{ls:List (Nat×Array Value×TypeId)}{rows:List (Option Addr×List Nd)}(h:PI w bp en ts dp ls rows W)(T:TypeId){cs:Array Value}(css:List (List Value))(l:List Nd)(hcs:cs.toList=css.flatten)
  (hsz:∀c∈css,c.length=5) (hlen:css.length=l.length)
  (hd:∀(j:Nat) n c,l[j]? = some n->css[j]? = some c->∃k t ln cl kids a cap,n = .mk k t ln cl kids/\c=[.int .i64 k,.string t,.int .i64 ln,.int .i64 cl,.slice a kids.length cap]/\((a,kids)∈rows\/kids=[])) (hcp:CapOk css l:=by(repeat' (first|exact trivial|refine And.intro ?_ ?_))<;>first|(refine Hid.out ?_;assumption)|assumption|(intro _;exact Nat.zero_le _)|(intro h6;exact absurd h6 (by decide))):
  PI w bp en ts dp ls ((some ⟨W.heap.size,0,none⟩,l)::rows) (W.alloc (.cells cs T)):=by
 have hb:=h.below ((bRf _ W).alloc (nlr _) (.cells cs T));refine⟨hb.grown,hb.ps,hb.locs,hb.own,hb.bpl,fun r hr=>?_,hb.dist⟩;rcases List.mem_cons.1 hr with rfl|hr
 ·refine Ag.lit (size:=5) css (heap_alloc_new W _) hcs ⟨h.grown.size,fun x hx=>Nat.ne_of_gt (h.locs.lt hx)⟩ hsz (by rw[Am];exact hlen) (fun j ds c hj hc=>?_);simp only[B5,lgP,Option.map_eq_some_iff] at hj;obtain⟨n,hn,rfl⟩:=hj;have hcap:=fun k t ln cl kids c0 c1 c2 c3 a n' cap (h1:n = .mk k t ln cl kids) (h2:c=[c0,c1,c2,c3,.slice a n' cap])=>CapOk.get hcp (hn.trans (congrArg some h1)) (hc.trans (congrArg some h2)) (fun i c' x' h3 h4=>by obtain⟨k,t,ln,cl,kids,a,cap,-,rfl,-⟩:=hd i x' c' h4 h3;exact⟨_,_,_,_,_,_,_,rfl⟩);obtain⟨k,t,ln,cl,kids,a,cap,rfl,rfl,hr|rfl⟩:=hd j n c hn hc
  ·exact Fx _ _ _ _ cap (hb.rows _ hr) (hcap _ _ _ _ _ _ _ _ _ _ _ _ rfl rfl)
  ·exact Fx _ _ _ _ cap (Ag.nil _)
 ·exact hb.rows r hr
theorem Au{α β:Type}{f:FuncId}{args:Array Value}{W:World}{Q:Ending->World->Prop}{bp:Nat}{en:Int×Int}{val:α->World->Value->Prop}{m:PM α}{k:α->PM β}{ts:List Tok}{dp:Int}{full:PR β}{d:Int}(nd:Int)
  (Hc:Hid (Calls Tryz.prog f args W (PP bp en val (m ts dp) W))) (Hr:Hid (full ≠ .out)) (Hsp:Hid (full=PM.bind m k ts dp)) (hi:Inc d m) (hd:nd=dp+d)
  (herr:∀{a l c w'},W.grownBy w' (some bp)->full = .err a l c->Q (.panicked [{ v:=Jn a l c,recovered:=false}]) w')
  (hok:∀x ts' w' v,m ts dp = .ok x ts' nd->W.grownBy w' (some bp)->PS w' bp en ts' nd->val x w' v->Hid (full=k x ts' nd)->Q (.returned v) w'):Calls Tryz.prog f args W Q:=by
 refine Hc.out.mono ?_;rintro e w' ⟨hg,hq⟩;cases hm:m ts dp with
 | out=>exact absurd (Hsp.out.trans (C3 hm)) Hr.out
 | err a l c=>
  rw[hm] at hq;obtain rfl:e=_:=hq;exact herr hg (Hsp.out.trans (Fd hm))
 | ok x ts' dq=>
  obtain rfl:nd=dq:=(by have:=hi _ _ _ _ _ hm;omega);rw[hm] at hq;obtain⟨hps,v,rfl,hv⟩:=hq;exact hok x ts' w' v hm hg hps hv (Lq7 (Hsp.out.trans (B8 hm)))
theorem Ba{α β}{m:PM α}{k:α->PM β}{ts dp}{full:PR β}(Hr:Hid (full ≠ .out))(Hsp:Hid (full=PM.bind m k ts dp)):m ts dp ≠ .out:=fun h=>Hr.out (Hsp.out.trans (C3 h))
theorem Bi{f:FuncId}{args}{W:World}{Q:Ending->World->Prop}{X}{R:World->Prop}(Hc:Hid (Calls Tryz.prog f args W (fun e w'=>e = .returned X/\Below W.heap.size W w')))(hb:∀{w'},Below W.heap.size W w'->R w')(h:∀w',Hid (R w')->Q (.returned X) w'):Calls Tryz.prog f args W Q:=by
 refine Hc.out.mono ?_;rintro e w' ⟨rfl,hw⟩;exact h w' (Lq7 (hb hw))
theorem Mx(bp tt en L)(hL:Gz L)(hx:Dv 46 bp en Cy L.stmt)(w ts dp)(hp:PS w bp en ts dp)(hd0:0<=dp)(hd1:dp<=1000)(hr:C4 en L tt.data.toList ts dp ≠ .out):
  Calls Tryz.prog 27 #[ptr bp,.string tt] w (PP bp en (Kd w.heap.size) (C4 en L tt.data.toList ts dp) w):=by
 obtain⟨i0,hi,bL,bM,bN⟩:=info_parts infoNode;have hfew:=hp.few;have hbpl:=hp.lt;have Hp:=Lq7 hp;have Hx:=Lq7 hx;have Hr:=Lq7 hr;unfold ptr;go_enter Tryz.func27,Tryz.ntmps27;go_wp2_with fail
 go_loopg [5] (ts.length+1) (fun g v wr=>∃(acc:List Nd) (bF:List Tok) (v':Value),v=v'/\g<=ts.length+1/\acc.length+g<=ts.length+1/\Hid (C4 en L tt.data.toList ts dp=Cl en L tt.data.toList g acc bF dp)/\Hid (w.grownBy wr (some bp)/\PS wr bp en bF dp)/\Hid (Bp (fun b=>w.heap.size<=b) wr w.heap.size 43 5 v' (Az acc)))
 case atStart=>exact⟨[],ts,_,rfl,nlr _,by simp,Lq7 rfl,Lq7 ⟨Dd _ _,Hp.out⟩,Lq7 (Bp.nil _ _ _ _ _)⟩
 case round=>
  obtain⟨acc,bF,v,hv,hg1,bC,aE,aS,hown⟩:=hrel;have hv:=hv.symm;subst hv;cases gk with
  | zero=>exact absurd aE.out Hr.out
  | succ g=>
   obtain⟨ab,capb,aV,hb2,hb3,hb4⟩:=aS.out.2;obtain⟨q0,q1,q2,q3,q4⟩:=Ak aV;cases bF with
   | nil=>
    have aI:Hid (C4 en L tt.data.toList ts dp = .ok acc [] dp):=Lq7 (by rw[aE.out];rfl);go_wp2_with fail;go_ret;rw[aI.out];obtain⟨a,cap,aJ,aG⟩:=hown.out.rowAt (fun g hg=>(hown.out.block_lt hg).1);rw[Am] at aJ;exact⟨aS.out.1,aS.out.2,_,rfl,a,cap,aJ,aG⟩
   | cons t0 r0=>
    have bO:=Lq7 (Lq8 tt);cases htt:tt.toList.isEmpty
    ·have bG:tt.data.toList.isEmpty=false:=(by rw[<-bO.out];exact htt);cases hb:Be en (t0::r0) 0 tt.data.toList
     ·have aI:Hid (C4 en L tt.data.toList ts dp=PM.bind L.stmt (fun x=>Cl en L tt.data.toList g (acc++[x])) (t0::r0) dp):=Lq7 (by rw[aE.out,Cl,B3];simp only[hb,bG];rfl);have Hs:=Lq7 (Ci bp 0 tt en (t0::r0) dp wr (by omega) aS.out.2);unfold ptr at Hs;rw[hb] at Hs;go_wp2_with fail;refine Hs.out.mono ?_;rintro e w1 ⟨rfl,aV⟩;have aU:Hid (w.grownBy w1 (some bp)/\PS w1 bp en (t0::r0) dp):=Lq7 ⟨Ae aS.out.1 (Bh aV),aS.out.2.grown aV⟩;have aA:=Lq7 (hown.out.below aV);have bH:L.stmt (t0::r0) dp ≠ .out:=fun h=>Hr.out (by rw[aI.out,C3 h]);have Ho:=Lq7 (Hx.out _ _ _ aU.out.2 hd0 hd1 bH);unfold ptr at Ho;have hws:w.heap.size<=w1.heap.size:=aU.out.1.size;go_wp2_with fail;refine Ho.out.mono ?_;rintro e w3 ⟨bD,hq⟩;have aM:=Lq7 (aIn (Ae aU.out.1 bD) bD);cases hm:L.stmt (t0::r0) dp with
      | out=>exact absurd (by rw[aI.out,C3 hm]) Hr.out
      | err x l c=>
       rw[hm] at hq;obtain rfl:=hq;have Hf:Hid (C4 en L tt.data.toList ts dp = .err x l c):=Lq7 (by rw[aI.out,Fd hm]);refine⟨rfl,?_⟩;rw[Hf.out];exact⟨aM.out.1,rfl⟩
      | ok x ts3 d3=>
       have bI:d3=dp:=(by have:=hL.stmt _ _ _ _ _ hm;omega);subst bI;rw[hm] at hq;have aW:Hid (C4 en L tt.data.toList ts d3=Cl en L tt.data.toList g (acc++[x]) ts3 d3):=Lq7 (by rw[aI.out,B8 hm]);obtain⟨xk,xt,xl,xc,xs⟩:=x;obtain⟨aY,v1,rfl,bE⟩:=hq;obtain⟨a1,aB,rfl,aG⟩:=A0.open bE;have aZ:=Lq7 (A0.cap bE);obtain⟨a,cap,aJ,-⟩:=aA.out.rowAt (fun g hg=>(aA.out.block_lt hg).1);rw[Am] at aJ;subst aJ;have aF:Hid (Bp (fun b=>w.heap.size<=b) w3 w.heap.size 43 5 (.slice a acc.length cap) (Az acc)):=Lq7 (aA.out.keep (fun b hb hF=>aM.out.2.block b hb (by
        intro e;cases e;rcases hF with hF|hF
        ·omega
        ·have:=(aA.out.block_lt hF).1;omega)) aM.out.2.size)
       have h5:=heap_alloc_new w3 (.cells #[.int .i64 xk,.string xt,.int .i64 xl,.int .i64 xc,.slice a1 xs.length aB] 43);have bA:Below w3.heap.size w3 (w3.alloc (.cells #[.int .i64 xk,.string xt,.int .i64 xl,.int .i64 xc,.slice a1 xs.length aB] 43)):=(bRf _ w3).alloc (nlr _) _;have aN:Hid (Ag (fun b=>w.heap.size<=b/\(Value.slice a acc.length cap).ownBlock≠some b) (w3.alloc (.cells #[.int .i64 xk,.string xt,.int .i64 xl,.int .i64 xc,.slice a1 xs.length aB] 43)) (some ⟨w3.heap.size,0,none⟩) (Az [.mk xk xt xl xc xs])):=Lq7 (by
        refine Ag.lit (size:=5) [[.int .i64 xk,.string xt,.int .i64 xl,.int .i64 xc,.slice a1 xs.length aB]] h5 rfl ⟨aM.out.1.size,fun e=>by have:=(aF.out.block_lt e).2;omega⟩ (by simp) (by simp[Az]) (fun j ds c hj hc=>?_);have bJ:=(lgS.1 hc).1;simp only[lnC,lnN] at bJ;obtain rfl:j=0:=(by omega);simp[Az] at hj hc;subst hj hc;exact Fx _ _ _ _ aB ((aG.below bA).wider (fun b hb _=>⟨by omega,fun e=>by have:=(aA.out.block_lt e).2;omega⟩)))
       have aC:=Lq7 (aF.out.below ((bRf _ w3).alloc (nlr _) (.cells #[.int .i64 xk,.string xt,.int .i64 xl,.int .i64 xc,.slice a1 xs.length aB] 43)));have aH:=Lq7 (aIn (Ae aM.out.1 (Bh bA)) (aY.grown bA))
       go_wp2_with (at_builtin;refine Bv rfl _ _ 36 rfl w.heap.size 43 i0 _ 5 64 Tryz.underlying36 hi bL bM bN rfl (by decide) (.slice a acc.length cap) (fun b=>w.heap.size<=b) (Az acc) rfl aC.out w3.heap.size 0 1 (Az [.mk xk xt xl xc xs]) ?_ aN.out (B1 Di _) (B1 Dk _) ?_ ?_ ?_ ?_)
       ·rw[Am];rfl
       ·rw[Am,Am];unfold maxLen;simp only[lnC,lnN] at bC |-;omega
       ·rw[Am,Am];simp only[lnC,lnN] at bC |-;omega
       ·exact aH.out.1.size
       intro v4 w4 aQ aD _;have bB:Hid (w.grownBy w4 (some bp)/\PS w4 bp en ts3 d3):=Lq7 ⟨Fe aH.out.1 aD (fun g hg=>(aC.out.block_lt hg).1),aH.out.2.own aD (fun g hg=>by have:=(aC.out.block_lt hg).1;omega)⟩;have aR:Hid (Bp (fun b=>w.heap.size<=b) w4 w.heap.size 43 5 v4 (Az (acc++[.mk xk xt xl xc xs]))):=Lq7 (by rw[nodesD_append];exact aQ);go_wp2_with fail
       go_roundg g
       case measure=>omega
       case rel=>exact⟨acc++[.mk xk xt xl xc xs],ts3,_,rfl,by omega,by simp only[lnA,lnC,lnN] at bC |-;omega,aW,bB,aR⟩
     ·have aI:Hid (C4 en L tt.data.toList ts dp = .ok acc (t0::r0) dp):=Lq7 (by rw[aE.out,Cl,B3];simp only[hb,bG];rfl);have Hs:=Lq7 (Ci bp 0 tt en (t0::r0) dp wr (by omega) aS.out.2);unfold ptr at Hs;rw[hb] at Hs;go_wp2_with fail;refine Hs.out.mono ?_;rintro e w1 ⟨rfl,aV⟩;have aU:Hid (w.grownBy w1 (some bp)/\PS w1 bp en (t0::r0) dp):=Lq7 ⟨Ae aS.out.1 (Bh aV),aS.out.2.grown aV⟩;have aA:=Lq7 (hown.out.below aV);go_wp2_with fail;go_ret;rw[aI.out];obtain⟨a,cap,aJ,aG⟩:=aA.out.rowAt (fun g hg=>(aA.out.block_lt hg).1);rw[Am] at aJ;exact⟨aU.out.1,aU.out.2,_,rfl,a,cap,aJ,aG⟩
    ·have bG:tt.data.toList.isEmpty=true:=(by rw[<-bO.out];exact htt);have aI:Hid (C4 en L tt.data.toList ts dp=PM.bind L.stmt (fun x=>Cl en L tt.data.toList g (acc++[x])) (t0::r0) dp):=Lq7 (by rw[aE.out,Cl,B3];simp only[bG,Bool.true_or];rfl);have aU:=aS;have aA:=hown;have bH:L.stmt (t0::r0) dp ≠ .out:=fun h=>Hr.out (by rw[aI.out,C3 h]);have Ho:=Lq7 (Hx.out _ _ _ aU.out.2 hd0 hd1 bH);unfold ptr at Ho;have hws:w.heap.size<=wr.heap.size:=aU.out.1.size;go_wp2_with fail;refine Ho.out.mono ?_;rintro e w3 ⟨bD,hq⟩;have aM:=Lq7 (aIn (Ae aU.out.1 bD) bD);cases hm:L.stmt (t0::r0) dp with
     | out=>exact absurd (by rw[aI.out,C3 hm]) Hr.out
     | err x l c=>
      rw[hm] at hq;obtain rfl:=hq;have Hf:Hid (C4 en L tt.data.toList ts dp = .err x l c):=Lq7 (by rw[aI.out,Fd hm]);refine⟨rfl,?_⟩;rw[Hf.out];exact⟨aM.out.1,rfl⟩
     | ok x ts3 d3=>
      have bI:d3=dp:=(by have:=hL.stmt _ _ _ _ _ hm;omega);subst bI;rw[hm] at hq;have aW:Hid (C4 en L tt.data.toList ts d3=Cl en L tt.data.toList g (acc++[x]) ts3 d3):=Lq7 (by rw[aI.out,B8 hm]);obtain⟨xk,xt,xl,xc,xs⟩:=x;obtain⟨aY,v1,rfl,bE⟩:=hq;obtain⟨a1,aB,rfl,aG⟩:=A0.open bE;have aZ:=Lq7 (A0.cap bE);obtain⟨a,cap,aJ,-⟩:=aA.out.rowAt (fun g hg=>(aA.out.block_lt hg).1);rw[Am] at aJ;subst aJ;have aF:Hid (Bp (fun b=>w.heap.size<=b) w3 w.heap.size 43 5 (.slice a acc.length cap) (Az acc)):=Lq7 (aA.out.keep (fun b hb hF=>aM.out.2.block b hb (by
       intro e;cases e;rcases hF with hF|hF
       ·omega
       ·have:=(aA.out.block_lt hF).1;omega)) aM.out.2.size)
      have h5:=heap_alloc_new w3 (.cells #[.int .i64 xk,.string xt,.int .i64 xl,.int .i64 xc,.slice a1 xs.length aB] 43);have bA:Below w3.heap.size w3 (w3.alloc (.cells #[.int .i64 xk,.string xt,.int .i64 xl,.int .i64 xc,.slice a1 xs.length aB] 43)):=(bRf _ w3).alloc (nlr _) _;have aN:Hid (Ag (fun b=>w.heap.size<=b/\(Value.slice a acc.length cap).ownBlock≠some b) (w3.alloc (.cells #[.int .i64 xk,.string xt,.int .i64 xl,.int .i64 xc,.slice a1 xs.length aB] 43)) (some ⟨w3.heap.size,0,none⟩) (Az [.mk xk xt xl xc xs])):=Lq7 (by
       refine Ag.lit (size:=5) [[.int .i64 xk,.string xt,.int .i64 xl,.int .i64 xc,.slice a1 xs.length aB]] h5 rfl ⟨aM.out.1.size,fun e=>by have:=(aF.out.block_lt e).2;omega⟩ (by simp) (by simp[Az]) (fun j ds c hj hc=>?_);have bJ:=(lgS.1 hc).1;simp only[lnC,lnN] at bJ;obtain rfl:j=0:=(by omega);simp[Az] at hj hc;subst hj hc;exact Fx _ _ _ _ aB ((aG.below bA).wider (fun b hb _=>⟨by omega,fun e=>by have:=(aA.out.block_lt e).2;omega⟩)))
      have aC:=Lq7 (aF.out.below ((bRf _ w3).alloc (nlr _) (.cells #[.int .i64 xk,.string xt,.int .i64 xl,.int .i64 xc,.slice a1 xs.length aB] 43)));have aH:=Lq7 (aIn (Ae aM.out.1 (Bh bA)) (aY.grown bA))
      go_wp2_with (at_builtin;refine Bv rfl _ _ 36 rfl w.heap.size 43 i0 _ 5 64 Tryz.underlying36 hi bL bM bN rfl (by decide) (.slice a acc.length cap) (fun b=>w.heap.size<=b) (Az acc) rfl aC.out w3.heap.size 0 1 (Az [.mk xk xt xl xc xs]) ?_ aN.out (B1 Di _) (B1 Dk _) ?_ ?_ ?_ ?_)
      ·rw[Am];rfl
      ·rw[Am,Am];unfold maxLen;simp only[lnC,lnN] at bC |-;omega
      ·rw[Am,Am];simp only[lnC,lnN] at bC |-;omega
      ·exact aH.out.1.size
      intro v4 w4 aQ aD _;have bB:Hid (w.grownBy w4 (some bp)/\PS w4 bp en ts3 d3):=Lq7 ⟨Fe aH.out.1 aD (fun g hg=>(aC.out.block_lt hg).1),aH.out.2.own aD (fun g hg=>by have:=(aC.out.block_lt hg).1;omega)⟩;have aR:Hid (Bp (fun b=>w.heap.size<=b) w4 w.heap.size 43 5 v4 (Az (acc++[.mk xk xt xl xc xs]))):=Lq7 (by rw[nodesD_append];exact aQ);go_wp2_with fail
      go_roundg g
      case measure=>omega
      case rel=>exact⟨acc++[.mk xk xt xl xc xs],ts3,_,rfl,by omega,by simp only[lnA,lnC,lnN] at bC |-;omega,aW,bB,aR⟩
theorem Mw{α}(m:PM α)(ts d):m ts d=PM.bind m (fun x=>PM.pure x) ts d:=by
 unfold PM.bind;cases m ts d<;>rfl
theorem Ie{en is ts ts' d d' x}(h:Cn en is ts d = .ok x ts' d'):d<60:=by
 unfold Cn at h;split at h
 ·cases h
 ·rename_i hn
  cases is with
  | false=>cases h
  | true=>
   simp only[Bool.true_and,decide_eq_true_eq] at hn;omega
def Gf(m:PM Nd):PM (List Nd):=PM.bind m fun x=>PM.pure [x]
theorem Lp{m:PM Nd}:∀ts d l ts' d',PM.bind m (fun x=>PM.pure [x]) ts d = .ok l ts' d'->l≠[]/\l.length<=2:=by
 intro ts d l ts' d' h;unfold PM.bind at h;cases hm:m ts d with
 | ok x t1 d1=>rw[hm] at h;cases h;simp
 | err a b c=>rw[hm] at h;cases h
 | out=>rw[hm] at h;cases h
theorem Sm{en L}:∀ts d l ts' d',pEntry en L ts d = .ok l ts' d'->l≠[]/\l.length<=2:=by
 intro ts d l ts' d' h;unfold pEntry B3 at h;simp only[PM.bind] at h;split at h
 ·split at h
  ·split at h
   ·cases h;simp
   ·cases h
   ·cases h
  ·cases h
  ·cases h
 ·cases h
 ·cases h
theorem Inc.one{m}(h:Inc 0 m):Inc 0 (Gf m):=Inc.bind h (fun _=>Inc.pure _) rfl
section
variable {w W W':World} {bp:Nat} {en:Int×Int} {ts:List Tok} {dp:Int} {ls:List (Nat×Array Value×TypeId)} {rows:List (Option Addr×List Nd)}
theorem PI.later(h:PI w bp en ts dp ls rows W)(hg:W.grownBy W' (some bp)){b:Nat}{cs:Array Value}{T:TypeId}(hx:(b,cs,T)∈ls):W'.heap[b]? = some (.cells cs T (0,0)):=
 (hg.block _ (h.lt _ hx) (fun e=>by cases e;have:=h.own _ hx;have:=h.bpl;omega)).trans (h.at hx)
theorem PI.down(h:PI w bp en ts dp ls rows W):∃a cap,W.heap[bp]? = some (.cells #[.slice a ts.length cap,.int .i64 en.1,.int .i64 en.2,.int .i64 dp] 68 (0,0)) /\
  ∀d,PI w bp en ts d ls rows (W.setCell ⟨bp,3,none⟩ (.int .i64 d)):=by
 obtain⟨a,cap,h1,h2,h3,h4⟩:=h.ps;have hbp:=h.bpl;have hX:∀k,k≠bp->∀v,(W.setCell ⟨bp,3,none⟩ v).heap[k]? = W.heap[k]?:=fun k hk v=>Af hk 3 v;refine⟨a,cap,h1,fun d=>⟨D3 h.grown 3 _,⟨a,cap,Al h1 3 _,h2,h3,h4.grown (D3 (Dd _ _) 3 _)⟩,fun x hx=>?_,h.own,hbp,fun r hr=>?_,h.dist⟩⟩
 ·rw[hX _ (by have:=h.own x hx;omega)];exact h.locs x hx
 ·exact(h.rows r hr).mono fun k hk hl=>⟨hk,by simpa using hl,hX k (by have:=hk.1;omega) _⟩
theorem PI.put4(h:PI w bp en ts dp ls rows W)(j:Nat){b:Nat}{x0 x1 x2 x3:Value}{T:TypeId}(hj:ls[j]? = some (b,#[x0,x1,x2,x3],T))(v0 v1 v2 v3:Value):
  PI w bp en ts dp (ls.set j (b,#[v0,v1,v2,v3],T)) rows ((((W.setCell ⟨b,0,none⟩ v0).setCell ⟨b,1,none⟩ v1).setCell ⟨b,2,none⟩ v2).setCell ⟨b,3,none⟩ v3):=by
 have aA:=(lgS.1 hj).1;have h1:=h.set j hj 0 v0;have h2:=h1.set j (b:=b) (cs:=#[v0,x1,x2,x3]) (T:=T) (by rw[List.getElem?_set_self aA];rfl) 1 v1;rw[List.set_set] at h2;have h3:=h2.set j (b:=b) (cs:=#[v0,v1,x2,x3]) (T:=T) (by rw[List.getElem?_set_self aA];rfl) 2 v2;rw[List.set_set] at h3;have h4:=h3.set j (b:=b) (cs:=#[v0,v1,v2,x3]) (T:=T) (by rw[List.getElem?_set_self aA];rfl) 3 v3;rw[List.set_set] at h4;exact h4
end
theorem Bp.widerB{F G w base base' e size v l}(h:Bp F w base e size v l)(hF:∀b,F b->b<w.heap.size->G b)(hb:base'<=base):Bp G w base' e size v l:=by
 obtain⟨css,hlen,hsz,⟨h1,h2⟩,hd⟩:=h;refine⟨css,hlen,hsz,⟨h1,?_⟩,fun j ds cs h5 h6=>(hd j ds cs h5 h6).wider fun b hb' hl=>⟨hF b hb'.1 hl,hb'.2⟩⟩;rcases h2 with h2|⟨g,cap,cur,h3,h4,h5⟩
 ·exact .inl h2
 ·exact .inr ⟨g,cap,cur,h3,by omega,h5⟩
def PF(w:World)(ls:List (Nat×Array Value×TypeId)):Nat->Prop:=fun b=>w.heap.size<=b/\∀x∈ls,b≠x.1
structure PO(w:World)(bp:Nat)(en:Int×Int)(ts:List Tok)(dp:Int)(ls:List (Nat×Array Value×TypeId))(rows:List (Option Addr×List Nd))(v:Value)(l:List Nd)(W:World):Prop where
 pi:PI w bp en ts dp ls [] W
 od:Bp (fun b=>w.heap.size<=b/\∀x∈ls,b≠x.1) W w.heap.size 43 5 v (Az l)
 ob:∀g,v.ownBlock=some g->∀x∈ls,g≠x.1
 rd:∀r∈rows,Ag (fun b=>(w.heap.size<=b/\∀x∈ls,b≠x.1)/\v.ownBlock≠some b) W r.1 (Az r.2)
section
variable {w W W':World} {bp:Nat} {en:Int×Int} {ts ts':List Tok} {dp dp':Int} {ls:List (Nat×Array Value×TypeId)} {rows:List (Option Addr×List Nd)} {v:Value} {l:List Nd}
theorem PO.grown(h:PO w bp en ts dp ls rows v l W):w.grownBy W (some bp):=h.pi.grown
theorem PO.ps(h:PO w bp en ts dp ls rows v l W):PS W bp en ts dp:=h.pi.ps
theorem PO.at(h:PO w bp en ts dp ls rows v l W){b:Nat}{cs:Array Value}{T:TypeId}(hx:(b,cs,T)∈ls):W.heap[b]? = some (.cells cs T (0,0)):=h.pi.at hx
theorem PO.lt(h:PO w bp en ts dp ls rows v l W):(∀x∈ls,x.1<W.heap.size)/\∀g,v.ownBlock=some g->g<W.heap.size:=⟨h.pi.lt,fun _ hg=>(h.od.block_lt hg).2⟩
theorem PO.below(h:PO w bp en ts dp ls rows v l W)(hb:Below W.heap.size W W'):PO w bp en ts dp ls rows v l W':=⟨h.pi.below hb,h.od.below hb,h.ob,fun r hr=>(h.rd r hr).below hb⟩
theorem PO.drew(h:PO w bp en ts dp ls rows v l W):PO w bp en ts dp ls rows v l W.drew:=h.below ((bRf _ W).drew)
theorem PO.call(h:PO w bp en ts dp ls rows v l W)(hg:W.grownBy W' (some bp))(hp:PS W' bp en ts' dp'):PO w bp en ts' dp' ls rows v l W':=by
 have aA:=h.pi.bpl;refine⟨h.pi.call hg hp,h.od.keep (fun b hl hF=>hg.block b hl (fun e=>?_)) hg.size,h.ob,fun r hr=>(h.rd r hr).mono fun b hb hl=>⟨hb,nll hl hg.size,hg.block b hl (fun e=>?_)⟩⟩
 ·cases e;rcases hF with hF|hF
  ·omega
  ·have:=(h.od.block_lt hF).1;omega
 ·cases e;have:=hb.1.1;omega
theorem PO.row{B:Nat}{a:Option Addr}{m:List Nd}(h:PO w bp en ts dp ls rows v l W)(hrow:Ag (fun b=>B<=b) W a (Az m))(hw:w.heap.size<=B)(hB:(∀x∈ls,x.1<B)/\∀g,v.ownBlock=some g->g<B):PO w bp en ts dp ls ((a,m)::rows) v l W:=
 ⟨h.pi,h.od,h.ob,fun r hr=>by
  rcases List.mem_cons.1 hr with rfl|hr
  ·exact hrow.wider (fun b hb _=>⟨⟨by omega,fun x hx e=>by have:=hB.1 x hx;omega⟩,fun e=>by have:=hB.2 b e;omega⟩)
  ·exact h.rd r hr⟩
theorem PO.lit(h:PO w bp en ts dp ls rows v l W)(T:TypeId){cs:Array Value}(css:List (List Value))(m:List Nd)(hcs:cs.toList=css.flatten)
  (hsz:∀c∈css,c.length=5) (hlen:css.length=m.length)
  (hd:∀(j:Nat) n c,m[j]? = some n->css[j]? = some c->∃k t ln cl kids a cap,n = .mk k t ln cl kids/\c=[.int .i64 k,.string t,.int .i64 ln,.int .i64 cl,.slice a kids.length cap]/\((a,kids)∈rows\/kids=[])) (hcp:CapOk css m:=by(repeat' (first|exact trivial|refine And.intro ?_ ?_))<;>first|(refine Hid.out ?_;assumption)|assumption|(intro _;exact Nat.zero_le _)|(intro h6;exact absurd h6 (by decide))):
  PO w bp en ts dp ls ((some ⟨W.heap.size,0,none⟩,m)::rows) v l (W.alloc (.cells cs T)):=by
 have hb:=h.below ((bRf _ W).alloc (nlr _) (.cells cs T));refine⟨hb.pi,hb.od,hb.ob,fun r hr=>?_⟩;rcases List.mem_cons.1 hr with rfl|hr
 ·refine Ag.lit (size:=5) css (heap_alloc_new W _) hcs ⟨⟨h.grown.size,fun x hx=>Nat.ne_of_gt (h.pi.locs.lt hx)⟩,fun e=>by have:=(h.od.block_lt e).2;omega⟩ hsz (by rw[Am];exact hlen) (fun j ds c hj hc=>?_);simp only[B5,lgP,Option.map_eq_some_iff] at hj;obtain⟨n,hn,rfl⟩:=hj;have hcap:=fun k t ln cl kids c0 c1 c2 c3 a n' cap (h1:n = .mk k t ln cl kids) (h2:c=[c0,c1,c2,c3,.slice a n' cap])=>CapOk.get hcp (hn.trans (congrArg some h1)) (hc.trans (congrArg some h2)) (fun i c' x' h3 h4=>by obtain⟨k,t,ln,cl,kids,a,cap,-,rfl,-⟩:=hd i x' c' h4 h3;exact⟨_,_,_,_,_,_,_,rfl⟩);obtain⟨k,t,ln,cl,kids,a,cap,rfl,rfl,hr|rfl⟩:=hd j n c hn hc
  ·exact Fx _ _ _ _ cap (hb.rd _ hr) (hcap _ _ _ _ _ _ _ _ _ _ _ _ rfl rfl)
  ·exact Fx _ _ _ _ cap (Ag.nil _)
 ·exact hb.rd r hr
theorem PO.ofLit(h:PI w bp en ts dp ls rows W){cs:Array Value}(css:List (List Value))(m:List Nd)(hcs:cs.toList=css.flatten)
  (hsz:∀c∈css,c.length=5) (hlen:css.length=m.length) (hcz:cs.size=m.length*5) (hmx:m.length<=1000)
  (hd:∀(j:Nat) n c,m[j]? = some n->css[j]? = some c->∃k t ln cl kids a cap,n = .mk k t ln cl kids/\c=[.int .i64 k,.string t,.int .i64 ln,.int .i64 cl,.slice a kids.length cap]/\((a,kids)∈rows\/kids=[])) (hcp:CapOk css m:=by(repeat' (first|exact trivial|refine And.intro ?_ ?_))<;>first|(refine Hid.out ?_;assumption)|assumption|(intro _;exact Nat.zero_le _)|(intro h6;exact absurd h6 (by decide))):
  PO w bp en ts dp ls [] (.slice (some ⟨W.heap.size,0,none⟩) m.length m.length) m (W.alloc (.cells cs 43)):=by
 have hb:=h.below ((bRf _ W).alloc (nlr _) (.cells cs 43));have hl:css.flatten.length=m.length*5:=(by rw[<-hcs,Array.length_toList,hcz]);refine⟨⟨hb.grown,hb.ps,hb.locs,hb.own,hb.bpl,(by intro r hr;cases hr),hb.dist⟩,⟨css,by rw[Am];exact hlen,hsz,⟨by rw[Am];exact hl,.inr ⟨W.heap.size,m.length,cs,by rw[Am],h.grown.size,heap_alloc_new W _,by rw[Am];exact nlr _,by unfold maxLen;omega,hcz,?_⟩⟩,fun j ds c hj hc=>?_⟩,fun g hg x hx=>?_,by intro r hr;cases hr⟩
 ·rw[Am,hcs,<-hl,List.take_length]
 ·simp only[B5,lgP,Option.map_eq_some_iff] at hj;obtain⟨n,hn,rfl⟩:=hj;have hcap:=fun k t ln cl kids c0 c1 c2 c3 a n' cap (h1:n = .mk k t ln cl kids) (h2:c=[c0,c1,c2,c3,.slice a n' cap])=>CapOk.get hcp (hn.trans (congrArg some h1)) (hc.trans (congrArg some h2)) (fun i c' x' h3 h4=>by obtain⟨k,t,ln,cl,kids,a,cap,-,rfl,-⟩:=hd i x' c' h4 h3;exact⟨_,_,_,_,_,_,_,rfl⟩);obtain⟨k,t,ln,cl,kids,a,cap,rfl,rfl,hr|rfl⟩:=hd j n c hn hc
  ·exact Fx _ _ _ _ cap (((h.rows _ hr).here.below ((bRf _ W).alloc (nlr _) (.cells cs 43))).wider (fun b hb _=>⟨hb.1,fun e=>by have h9:W.heap.size=b:=Option.some.inj e;have h10:b<W.heap.size:=hb.2;omega⟩)) (hcap _ _ _ _ _ _ _ _ _ _ _ _ rfl rfl)
  ·exact Fx _ _ _ _ cap (Ag.nil _)
 ·cases hg;exact Nat.ne_of_gt (h.locs.lt hx)
theorem PO.ofOwn(h:PI w bp en ts dp ls rows W)(hg:W.grownBy W' (some bp))(hp:PS W' bp en ts' dp')(hv:VOwn W.heap.size l W' v):PO w bp en ts' dp' ls [] v l W':=by
 have hc:=h.call hg hp;refine⟨⟨hc.grown,hc.ps,hc.locs,hc.own,hc.bpl,(by intro r hr;cases hr),hc.dist⟩,hv.1.widerB (fun b hb _=>⟨Nat.le_trans h.grown.size hb,fun x hx=>Nat.ne_of_gt (nll (h.locs.lt hx) hb)⟩) h.grown.size,fun g hg x hx=>?_,by intro r hr;cases hr⟩;have:=(hv.1.block_lt hg).1;have:=h.locs.lt hx;omega
theorem PO.grew(h:PO w bp en ts dp ls rows v l W){v':Value}{m:List Nd}(hown:Bp (PF w ls) W' w.heap.size 43 5 v' (Az l++Az m))(hg:W.grownBy W' v.ownBlock)
  (hor:∀g,v'.ownBlock=some g->v.ownBlock=some g\/W.heap.size<=g):PO w bp en ts dp ls [] v' (l++m) W':=by
 have aA:=h.pi.bpl;refine⟨⟨Fe h.grown hg (fun g hq=>(h.od.block_lt hq).1),h.ps.own hg (fun g hq=>by have:=(h.od.block_lt hq).1;omega),fun x hx=>?_,h.pi.own,aA,(by intro r hr;cases hr),h.pi.dist⟩,by rw[nodesD_append];exact hown,fun g hq x hx=>?_,by intro r hr;cases hr⟩
 ·exact(hg.block _ (h.pi.locs.lt hx) (fun e=>h.ob _ e.symm x hx rfl)).trans (h.pi.locs x hx)
 ·rcases hor g hq with hq|hq
  ·exact h.ob g hq x hx
  ·exact Nat.ne_of_gt (nll (h.pi.locs.lt hx) hq)
theorem PO.sliceC(h:PO w bp en ts dp ls rows v l W):∃a cap,v = .slice a l.length cap/\l.length<=cap:=by
 obtain⟨css,-,-,⟨-,⟨rfl,h2⟩|⟨g,cap,cur,rfl,-,-,h6,-⟩⟩,-⟩:=h.od
 ·rw[Am] at h2;exact⟨none,0,by rw[h2],by omega⟩
 ·rw[Am] at h6;exact⟨_,cap,by rw[Am],h6⟩
theorem PO.toRow{a:Option Addr}{n cap:Nat}(h:PO w bp en ts dp ls rows (.slice a n cap) l W):PI w bp en ts dp ls [(a,l)] W:=by
 obtain⟨a',cap',hva,hrow⟩:=h.od.rowAt (fun g hg=>⟨(h.od.block_lt hg).1,h.ob g hg⟩);obtain rfl:a=a':=(by injection hva);refine⟨h.pi.grown,h.pi.ps,h.pi.locs,h.pi.own,h.pi.bpl,fun r hr=>?_,h.pi.dist⟩;obtain rfl:r=(a,l):=(by simpa using hr);exact hrow
end
theorem Sn(bp en L)(hL:Gz L)(hx:Dv 46 bp en Cy L.stmt):Dv 88 bp en Cy (Ct en L):=by
 intro w ts dp hp hd0 hd1 hr;have Hr:=Lq7 hr;have Hx:=Lq7 hx;clear hx;have cB:Ct en L ts dp=PM.bind (Cn en (Be en ts 0 [123])) (fun t=>PM.bind (C4 en L [125]) fun l=>PM.bind (Cj en [125]) fun _=>PM.pure (Ax 8 t ⟨#[]⟩ l)) ts dp:=rfl;have aC:=Lq7 cB;have H0:=Lq7 ((PI.start hp).alloc #[.int .i64 0,.string ⟨#[]⟩,.int .i64 0,.int .i64 0,.slice none 0 0] 43);clear hp hr cB;unfold ptr;go_enter Tryz.func88,Tryz.ntmps88;go_wp2_with fail;have bR:=Lq7 (Ci bp 0 ⟨#[123]⟩ en ts (dp) (w.alloc (.cells #[.int .i64 0,.string ⟨#[]⟩,.int .i64 0,.int .i64 0,.slice none 0 0] 43)) (by omega) H0.out.ps);(try unfold ptr at bR);refine Bi bR (fun hb=>H0.out.below hb) ?_;intro w2 H3;clear bR H0;have bS:=Lq7 (Gb bp (Be en ts 0 [123]) en ts (dp) w2 (by omega) (by omega) H3.out.ps (Ba Hr aC));(try unfold ptr at bS);go_wp2_with fail;refine Au (dp+1) bS Hr aC (Inc.open _) (by omega) (fun hg hf=>⟨rfl,by rw[hf];exact⟨Ae H3.out.grown hg,rfl⟩⟩) ?_;rintro x9 ts8 w5 v hm hg aB rfl aG;have hlt:=Ie hm;have H6:=Lq7 (H3.out.call hg aB);(try unfold tokV);clear hm hg aB bS H3 aC;have aF:=Lq7 (H6.out.alloc #[.int .i64 x9.kind,.string x9.text,.int .i64 x9.line,.int .i64 x9.col] 70);clear H6;go_wp2_with fail;generalize w5.alloc _=W10 at aF |-;generalize w5.heap.size=b12 at aF |-;have aH:=Lq7 (Mx bp ⟨#[125]⟩ en L hL Hx.out W10 ts8 (dp+1) aF.out.ps (by omega) (by omega) (Ba Hr aG));(try unfold ptr at aH);refine Au (dp+1) aH Hr aG (Inc.stmts hL _) (by omega) (fun hg hf=>⟨rfl,by rw[hf];exact⟨Ae aF.out.grown hg,rfl⟩⟩) ?_;rintro bT bU w14 v hm hg aB ⟨bV,aD,rfl,aA⟩ aE;have bQ:=Lq7 ((aF.out.call hg aB).row aA aF.out.grown.size aF.out.lt);clear aA;clear hm hg aB aH aF aG;have aI:=Lq7 (Ga bp ⟨#[125]⟩ en bU (dp+1) w14 (by omega) (by omega) bQ.out.ps (Ba Hr aE));(try unfold ptr at aI);go_wp2_with fail;refine Au (dp) aI Hr aE (Inc.close _) (by omega) (fun hg hf=>⟨rfl,by rw[hf];exact⟨Ae bQ.out.grown hg,rfl⟩⟩) ?_;rintro x26 ts25 w22 v hm hg aB-aJ;have bW:=Lq7 (bQ.out.call hg aB);clear hm hg aB aI bQ aE;obtain⟨r27,r28,r29,r30,r31⟩:=Ak (bW.out.at (b:=b12) (cs:=#[.int .i64 x9.kind,.string x9.text,.int .i64 x9.line,.int .i64 x9.col]) (T:=70) (by simp));go_wp2_with fail;clear r27 r28 r29 r30 r31;have bX:=Lq7 (Bo 8 x9 ⟨#[]⟩ bV bT.length aD w22);unfold tokV Cx at bX;refine bX.out.mono ?_;rintro e w32 ⟨rfl,hb⟩;have cC:=Lq7 (bW.out.below hb);clear hb bX bW;obtain⟨r34,r35,r36,r37,r38,r39,r40,r41,r42,r43,r44⟩:=Aa (cC.out.at (b:=w.heap.size) (cs:=#[.int .i64 0,.string ⟨#[]⟩,.int .i64 0,.int .i64 0,.slice none 0 0]) (T:=43) (by simp));go_wp2_with fail;refine bodyPost_ret (v:=.agg #[.int .i64 8,.string ⟨#[]⟩,.int .i64 x9.line,.int .i64 x9.col,.slice bV bT.length aD]) (by simp[results,Tryz.results88,go_sem,r35,r36,r37,r38,r39]) rfl ?_;have G:=Lq7 (cC.out.put5 1 rfl (.int .i64 8) (.string ⟨#[]⟩) (.int .i64 x9.line) (.int .i64 x9.col) (.slice bV bT.length aD));rw[aJ.out];exact⟨G.out.grown,G.out.ps,_,rfl,A0.mk _ _ _ _ _ (G.out.hand (by simp[]))⟩
theorem Sp(bp bb en L)(hi:Inc 0 (pArg en L))(hx:Dv 132 bp en Cy (pArg en L))(w)(hb:w.heap[bb]? = some (.cells #[ptr bp] 65 (0,0)))(ts dp)(hp:PS w bp en ts dp)(hd0:0<=dp)(hd1:dp<=1000)(hr:Gf (pArg en L) ts dp ≠ .out):Calls Tryz.prog 131 #[.pointer (some ⟨bb,0,none⟩)] w (PP bp en (Kd w.heap.size) (Gf (pArg en L) ts dp) w):=by
 have Hr:=Lq7 hr;have Hx:=Lq7 hx;have aC:Hid (Gf (pArg en L) ts dp=PM.bind (pArg en L) (fun x=>PM.pure [x]) ts dp):=Lq7 rfl;have H0:=Lq7 (PI.start hp);unfold ptr at hb;obtain⟨cD,cE⟩:=Ap hb;go_enter Tryz.func131,Tryz.ntmps131;go_wp2_with fail;have aM:=Lq7 (Hx.out w ts (dp) H0.out.ps (by omega) (by omega) (Ba Hr aC));(try unfold ptr at aM);refine Au (dp) aM Hr aC (hi) (by omega) (fun hg hf=>⟨rfl,by rw[hf];exact⟨Ae H0.out.grown hg,rfl⟩⟩) ?_;rintro x50 ts49 w46 v hm hg aB hv aN;obtain⟨aQ,aR,aS,aU,aV⟩:=x50;obtain⟨a51,aW,rfl,aA⟩:=A0.open hv;have Hccap52:=Lq7 (A0.cap hv);have H47:=Lq7 ((H0.out.call hg aB).row aA H0.out.grown.size H0.out.lt);go_wp2_with fail;have bY:=Lq7 (H47.out.lit 43 [[.int .i64 aQ,.string aR,.int .i64 aS,.int .i64 aU,.slice a51 aV.length aW]] [.mk aQ aR aS aU aV] rfl (by simp) rfl (fun j n c hj hc=>by
  have aY:=(lgS.1 hc).1;simp only[lnC,lnN] at aY;obtain rfl:j=0:=by omega
  ·simp at hj hc;subst hj hc;exact⟨_,_,_,_,_,_,_,rfl,rfl,.inl (by simp)⟩))
 go_ret;rw[aN.out];exact⟨bY.out.grown,bY.out.ps,_,rfl,_,_,rfl,bY.out.hand (by simp[])⟩
theorem Sq(bp bb en L)(hL:Gz L)(hx:Dv 87 bp en Cy L.expr)(w)(hb:w.heap[bb]? = some (.cells #[ptr bp] 65 (0,0)))(ts dp)(hp:PS w bp en ts dp)(hd0:0<=dp)(hd1:dp<=1000)(hr:Gf (L.expr) ts dp ≠ .out):Calls Tryz.prog 185 #[.pointer (some ⟨bb,0,none⟩)] w (PP bp en (Kd w.heap.size) (Gf (L.expr) ts dp) w):=by
 have Hr:=Lq7 hr;have Hx:=Lq7 hx;have aC:Hid (Gf (L.expr) ts dp=PM.bind (L.expr) (fun x=>PM.pure [x]) ts dp):=Lq7 rfl;have H0:=Lq7 (PI.start hp);unfold ptr at hb;obtain⟨cD,cE⟩:=Ap hb;go_enter Tryz.func185,Tryz.ntmps185;go_wp2_with fail;have aZ:=Lq7 (Hx.out w ts (dp) H0.out.ps (by omega) (by omega) (Ba Hr aC));(try unfold ptr at aZ);refine Au (dp) aZ Hr aC (hL.expr) (by omega) (fun hg hf=>⟨rfl,by rw[hf];exact⟨Ae H0.out.grown hg,rfl⟩⟩) ?_;rintro x59 ts58 w55 v hm hg aB hv bA;obtain⟨bB,bC,bD,bE,bF⟩:=x59;obtain⟨a60,bG,rfl,aA⟩:=A0.open hv;have Hccap61:=Lq7 (A0.cap hv);have H56:=Lq7 ((H0.out.call hg aB).row aA H0.out.grown.size H0.out.lt);go_wp2_with fail;have bZ:=Lq7 (H56.out.lit 43 [[.int .i64 bB,.string bC,.int .i64 bD,.int .i64 bE,.slice a60 bF.length bG]] [.mk bB bC bD bE bF] rfl (by simp) rfl (fun j n c hj hc=>by
  have aY:=(lgS.1 hc).1;simp only[lnC,lnN] at aY;obtain rfl:j=0:=by omega
  ·simp at hj hc;subst hj hc;exact⟨_,_,_,_,_,_,_,rfl,rfl,.inl (by simp)⟩))
 go_ret;rw[bA.out];exact⟨bZ.out.grown,bZ.out.ps,_,rfl,_,_,rfl,bZ.out.hand (by simp[])⟩
theorem Sr(bp bb en L)(hi:Inc 0 (B6 en L))(hx:Dv 130 bp en Cy (B6 en L))(w)(hb:w.heap[bb]? = some (.cells #[ptr bp] 65 (0,0)))(ts dp)(hp:PS w bp en ts dp)(hd0:0<=dp)(hd1:dp<=1000)(hr:Gf (B6 en L) ts dp ≠ .out):Calls Tryz.prog 129 #[.pointer (some ⟨bb,0,none⟩)] w (PP bp en (Kd w.heap.size) (Gf (B6 en L) ts dp) w):=by
 have Hr:=Lq7 hr;have Hx:=Lq7 hx;have aC:Hid (Gf (B6 en L) ts dp=PM.bind (B6 en L) (fun x=>PM.pure [x]) ts dp):=Lq7 rfl;have H0:=Lq7 (PI.start hp);unfold ptr at hb;obtain⟨cD,cE⟩:=Ap hb;go_enter Tryz.func129,Tryz.ntmps129;go_wp2_with fail;have bH:=Lq7 (Hx.out w ts (dp) H0.out.ps (by omega) (by omega) (Ba Hr aC));(try unfold ptr at bH);refine Au (dp) bH Hr aC (hi) (by omega) (fun hg hf=>⟨rfl,by rw[hf];exact⟨Ae H0.out.grown hg,rfl⟩⟩) ?_;rintro x68 ts67 w64 v hm hg aB hv bI;obtain⟨bJ,bL,bM,bN,bO⟩:=x68;obtain⟨a69,bP,rfl,aA⟩:=A0.open hv;have Hccap70:=Lq7 (A0.cap hv);have H65:=Lq7 ((H0.out.call hg aB).row aA H0.out.grown.size H0.out.lt);go_wp2_with fail;have cA:=Lq7 (H65.out.lit 43 [[.int .i64 bJ,.string bL,.int .i64 bM,.int .i64 bN,.slice a69 bO.length bP]] [.mk bJ bL bM bN bO] rfl (by simp) rfl (fun j n c hj hc=>by
  have aY:=(lgS.1 hc).1;simp only[lnC,lnN] at aY;obtain rfl:j=0:=by omega
  ·simp at hj hc;subst hj hc;exact⟨_,_,_,_,_,_,_,rfl,rfl,.inl (by simp)⟩))
 go_ret;rw[bI.out];exact⟨cA.out.grown,cA.out.ps,_,rfl,_,_,rfl,cA.out.hand (by simp[])⟩
theorem Rc(n)(hn:inR n=true)(w)(hT:Ea w):Calls Tryz.prog 39 #[.int .i64 n] w (Jq (Lib.itoa n) w):=by
 unfold inR at hn;simp only[Bool.and_eq_true,decide_eq_true_eq] at hn;have HF:=Lq7 (Tryz.strconv_FormatInt_10 n hn.1 hn.2 w hT);clear hT;go_enter Tryz.func39,Tryz.ntmps39;go_wp2_with fail;refine HF.out.mono ?_;rintro e w1 ⟨rfl,k,os,hw⟩;have Hb:Hid (Below w.heap.size w w1):=Lq7 (by
  rw[hw];exact(Dy (bRf _ w) k).trans (below_grown (w.drewN k) 0 os))
 clear hw;go_wp2_with fail;go_ret;exact⟨_,rfl,rfl,Hb.out⟩
theorem Bg(a b:ByteArray):(a++b).data.toList=a.data.toList++b.data.toList:=by simp
end Go.Proofs.YtkehdallfohjfaaGreatDoor
