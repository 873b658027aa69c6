/-
  The walk of pack.Num. (And what it stands on.)
-/
import Derived.Lib.LastIndexByte
import Derived.IntWalk
import Derived.RegionTactic
import Derived.Deep.RegionWith
import Derived.Deep.LoopGhost
import Derived.Test.YtbcdimjbepigcaaGreatDoorMLexD
import Derived.Test.YtbcdimjbepigcaaGreatDoorMRegionHeldD
import Derived.Test.YtbcdimjbepigcaaGreatDoorMParseNz
import Derived.Test.YtbcdimjbepigcaaGreatDoorShelf
import Derived.Test.YtbcdimjbepigcaaGreatDoorMEvalPlain
namespace Go.Proofs.YtbcdimjbepigcaaGreatDoor
open Go Go.RowKit
open List renaming getElem?_eq_getElem->lgE,getElem?_eq_some_iff->lgS,length_cons->lnC,length_append->lnA,length_map->lnM,length_take->lnT,getElem?_map->lgP,take_of_length_le->ltL,length_nil->lnN,mem_of_getElem? -> lgM
open Nat renaming le_refl->nlr,lt_of_lt_of_le->nll,zero_le->nlz
open Go.Lib renaming hid->Lq7,toList_data->Lq8
open Go.RowKit.Below renaming refl->bRf
open _root_.Array renaming getElem?_eq_some_iff->agS
open And renaming intro->aIn
set_option maxRecDepth 100000
set_option maxHeartbeats 16000000
theorem behindLast_eq(s)(h:0<s.data.toList.count 10):∃i:Nat,i<s.size/\Lib.lastIndexByte s 10=(i:Int)/\behindLast s.data.toList+1=s.size-i:=by
 have aF:∀(j:Nat) (hj:j<s.size),s.data.toList[j]? = some (s.data[j]!):=fun j hj=>by
  have h1:=I6 s j hj;rw[h1];have h2:s.data[j]! = s.data[j]'hj:=getElem!_pos s.data j hj;rw[h2];rfl
 rcases Lib.lastIndexByte_spec s 10 with⟨e,hn⟩|⟨i,hi,e,hc,hn⟩
 ·exfalso;obtain⟨j,hj⟩:=List.getElem?_of_mem (List.count_pos_iff.1 h);have aB:=(lgS.1 hj).1;rw[Ax] at aB;rw[aF j aB] at hj;exact hn j aB (by rw[Option.some.inj hj];rfl)
 ·refine⟨i,hi,e,?_⟩;have aG:i<s.data.toList.length:=(by rw[Ax];exact hi);have h10:s.data.toList[i]'aG=10:=by
   have:=aF i hi;rw[lgE aG] at this;rw[Option.some.inj this];exact UInt8.toNat_inj.1 (by show _=10;omega)
  have aC:s.data.toList=s.data.toList.take i++10::s.data.toList.drop (i+1):=by
   rw[<-h10,<-List.drop_eq_getElem_cons aG,List.take_append_drop]
  have aD:∀x∈(s.data.toList.drop (i+1)).reverse,decide (x≠10)=true:=by
   intro x hx;rw[List.mem_reverse] at hx;obtain⟨j,hj⟩:=List.getElem?_of_mem hx;rw[List.getElem?_drop] at hj;have aB:=(lgS.1 hj).1;rw[Ax] at aB;rw[aF _ aB] at hj;have:=hn (i+1+j) (by omega) aB;rw[Option.some.inj hj] at this;simp;rintro rfl;exact this rfl
  have hb:behindLast s.data.toList=s.size-i - 1:=by
   unfold behindLast;rw[aC,List.reverse_append,List.reverse_cons,List.append_assoc,List.takeWhile_append_of_pos aD,List.singleton_append,List.takeWhile_cons_of_neg (by simp),List.append_nil,List.length_reverse,List.length_drop,Ax];omega
  omega
def PPlace(p:Int×Int)(w:World)(e:Ending)(w':World):Prop:=Below w.heap.size w w'/\e = .returned (.agg #[.int .i64 p.1,.int .i64 p.2])
theorem Rn(ln cl s w)(hs:s.size<=65536)(hl0:0<=ln)(hl1:ln<=1000000)(hc0:0<=cl)(hc1:cl<=1000000):
  Calls Tryz.prog 62 #[.agg #[.int .i64 ln,.int .i64 cl],.string s] w (PPlace (passL (ln,cl) s.data.toList) w):=by
 go_enter Tryz.func62,Tryz.ntmps62;go_wp2_with fail;refine(Tryz.strings_Count_one s 10 _).mono ?_;rintro e w2 ⟨rfl,aE⟩;have aE:=aE.symm;subst aE;by_cases hn:0<s.data.toList.count 10
 ·obtain⟨i,hi,aJ,hbl⟩:=behindLast_eq s hn;have aH:s.data.toList.count 10<=s.size:=(by rw[<-Ax];exact List.count_le_length ..);have Hr:Hid (passL (ln,cl) s.data.toList=(ln+(s.data.toList.count 10:Int),((s.size-i:Nat):Int))):=Lq7 (by unfold passL;rw[if_pos hn,<-hbl];simp);have aM:((s.size-i:Nat):Int)=(s.size:Int)-(i:Int):=(by omega);have Hsi:=Lq7 aM;rw[show Lib.countByte s.data.toList 10=s.data.toList.count 10 from rfl];generalize s.data.toList.count 10=m0 at hn aH Hr |-;have Hli:=Lq7 aJ;have hn':(0:Int)<(m0:Int):=(by omega);have hw1:=IntWalk.i64_in (ln+(m0:Int)) (by omega);clear aJ hbl aM;go_wp2_with fail;refine Oy [10] (by kernel_rfl) (by kernel_rfl) ?_;refine Xa 10 (by decide) ?_;simp only[List.take_succ_cons,List.take_zero,List.drop_succ_cons,List.drop_zero]
  repeat (first
   | go_big_quiet_step ((go_at_call 105;exact Calls.quiet_of_same (Tryz.strings_LastIndexByte s 10 (by omega) _)))
   | quiet_step ((go_at_call 105;exact Calls.quiet_of_same (Tryz.strings_LastIndexByte s 10 (by omega) _))))
  refine wpQuiet_nil ?_;refine Xb (by decide) (fun n K hK=>?_);rw[Hli.out];have aE:=IntWalk.wrap64_in ((s.size:Int)-(i:Int)) (by omega);go_wp2_with fail;refine mix_end (fun m=>?_);go_wp2_with fail;refine bodyPost_ret (v:=.agg #[.int .i64 (ln+m0),.int .i64 ((s.size:Int)-(i:Int))]) (by simp[results,Tryz.results62,go_sem]) rfl ?_;rw[Hr.out,Hsi.out];refine⟨Cv ((Cv (((bRf _ _).alloc (nlr _) _).alloc (by simp) _) n).setCell (p:=⟨w.heap.size+1,0,none⟩) (by simp) _ |>.setCell (p:=⟨w.heap.size+1,1,none⟩) (by simp) _) m,rfl⟩
 ·have aN:Lib.countByte s.data.toList 10=0:=(by unfold Lib.countByte;omega);have Hr:Hid (passL (ln,cl) s.data.toList=(ln,cl+s.size)):=Lq7 (by unfold passL;rw[if_neg hn,Ax]);rw[aN];clear hn aN;go_wp2_with fail;refine bodyPost_ret (v:=.agg #[.int .i64 ln,.int .i64 (cl+s.size)]) (by simp[results,Tryz.results62,go_sem]) rfl ?_;rw[Hr.out];exact⟨((bRf _ _).alloc (nlr _) _).alloc (by simp) _,rfl⟩
theorem quotedL_le:∀(f:Nat) (l:List UInt8) (r:List UInt8×Nat),l.length<=f->Cd l=some r->r.2<=l.length:=by
 intro f
 induction f with
 | zero=>intro l r hl h;obtain rfl:l=[]:=List.length_eq_zero_iff.1 (by omega);cases h
 | succ f ih=>
  intro l r hl h;cases l with
  | nil=>cases h
  | cons c t=>
   rw[D6] at h;simp only[lnC] at hl |-;split at h
   ·cases h;simp
   split at h
   ·cases h
   split at h
   ·cases t with
    | nil=>cases h
    | cons d t'=>
     simp only at h;cases hu:F8 d with
     | none=>rw[hu] at h;cases h
     | some u=>
      rw[hu] at h;cases hq:Cd t' with
      | none=>rw[hq] at h;cases h
      | some r'=>
       rw[hq] at h;cases h;have:=ih t' r' (by simp at hl;omega) hq;simp only[lnC];omega
   ·cases hq:Cd t with
    | none=>rw[hq] at h;cases h
    | some r'=>
     rw[hq] at h;cases h;have:=ih t r' (by omega) hq;simp only;omega
theorem runL_pos{p c t}(h:p c=true):1<=runL p (c::t):=by unfold runL;rw[List.takeWhile_cons_of_pos h];simp
theorem Ls{l x}(h:C1 l = .ok x):1<=x.2.2/\x.2.2<=l.length:=by
 cases l with
 | nil=>cases h
 | cons c t=>
  rw[C1.eq_def] at h;simp only at h;split at h
  ·rename_i hg;cases h;exact⟨runL_pos hg,runL_le _ _⟩
  split at h
  ·rename_i _ hc;cases h;exact⟨runL_pos (by rw[hc];decide),runL_le _ _⟩
  split at h
  ·rename_i hg;cases h;exact⟨runL_pos (by unfold D7;rw[hg];rfl),runL_le _ _⟩
  split at h
  ·rename_i hg
   unfold Dn at h;split at h
   ·cases h
   split at h
   ·cases h
   ·cases h;exact⟨runL_pos hg,runL_le _ _⟩
  split at h
  ·split at h
   ·rename_i r hq;cases h;have:=quotedL_le _ _ _ (nlr _) hq;simp only[lnC];omega
   ·cases h
  split at h
  ·rename_i hp
   cases h;refine⟨by simp,?_⟩;cases t with
   | nil=>simp at hp
   | cons d t'=>simp
  split at h
  ·cases h;simp
  ·cases h
theorem Vr{l n}(h:C1 l = .error n):n=2\/n=3:=by
 cases l with
 | nil=>cases h;simp
 | cons c t=>
  rw[C1.eq_def] at h;simp only at h;split at h
  ·cases h
  split at h
  ·cases h
  split at h
  ·cases h
  split at h
  ·unfold Dn at h;split at h
   ·cases h;simp
   split at h
   ·cases h;simp
   ·cases h
  split at h
  ·split at h
   ·cases h
   ·cases h;simp
  split at h
  ·cases h
  split at h
  ·cases h
  ·cases h;simp
theorem Ou(l)(h:0<l.count 10):behindLast l+1<=l.length:=by
 unfold behindLast;have hm:(10:UInt8)∈l.reverse:=List.mem_reverse.2 (List.count_pos_iff.1 h);obtain⟨a,b,aB⟩:=List.append_of_mem hm;have hlen:l.length=a.length+(b.length+1):=(by rw[<-List.length_reverse,aB];simp);have:((a++10::b).takeWhile (fun x=>decide (x≠(10:UInt8)))).length<=a.length:=by
  clear aB hlen hm
  induction a with
  | nil=>simp
  | cons x t ih=>
   rw[List.cons_append,List.takeWhile_cons];split
   ·simp only[lnC];exact Nat.succ_le_succ ih
   ·simp
 rw[aB];have h2:=this;simp only[ne_eq] at h2 |-;omega
theorem Km{ln cl:Int}{l:List UInt8}{m r:Nat}(h0:0<=ln)(h1:0<=cl)(h2:ln+l.length+r<=m)(h3:cl+l.length+r<=m)(h4:l.length+r<=m):
  0<=(passL (ln,cl) l).1/\(passL (ln,cl) l).1+r<=m/\0<=(passL (ln,cl) l).2/\(passL (ln,cl) l).2+r<=m:=by
 have hc:=List.count_le_length (a:=(10:UInt8)) (l:=l);unfold passL;split
 ·rename_i h
  have:=Ou l h;simp only;omega
 ·simp only;omega
def Ia(l:List UInt8)(p:Int×Int)(rest:List UInt8)(acc:List Tok):Prop:=
 ∀f,rest.length<f->Cg (l.length+1) (1,1) l=(Cg f p rest).map fun ts=>acc++ts
theorem tokensL_fuel:∀(f g:Nat) (p:Int×Int) (l:List UInt8),l.length<f->l.length<g->Cg f p l=Cg g p l
 | 0,_,_,_,h,_=>by omega
 | f+1,0,_,_,_,h=>by omega
 | f+1,g+1,p,l,hf,hg=>by
  unfold Cg;split
  ·rfl
  ·cases hn:C1 l with
   | error e=>rfl
   | ok x=>
    obtain⟨k,s,n⟩:=x;have h1:=Ls hn;simp only at h1 |-;rw[tokensL_fuel f g _ (l.drop n) (by rw[List.length_drop];omega) (by rw[List.length_drop];omega)]
theorem Ia.start(l):Ia l (1,1) l []:=by
 intro f hf;rw[tokensL_fuel (l.length+1) f _ l (by omega) hf];cases Cg f (1,1) l<;>rfl
theorem Ia.stop{l p acc}(h:Ia l p [] acc):Cg (l.length+1) (1,1) l = .ok acc:=by
 rw[h 1 (by simp)];simp[Cg,Except.map]
theorem Ia.fail{l rest p acc e}(h:Ia l p rest acc)(hr:rest≠[])(he:C1 rest = .error e):Cg (l.length+1) (1,1) l = .error (e,p.1,p.2):=by
 rw[h (rest.length+1) (by omega),Cg,if_neg hr,he];rfl
theorem Ia.next{l rest p acc x}(h:Ia l p rest acc)(hr:rest≠[])(he:C1 rest = .ok x):
  Ia l (passL p (rest.take x.2.2)) (rest.drop x.2.2) (if 0<x.1 then acc++[⟨x.1,⟨x.2.1.toArray⟩,p.1,p.2⟩] else acc):=by
 obtain⟨k,s,n⟩:=x;intro f hf;have h1:=Ls he;simp only at h1 hf |-;rw[List.length_drop] at hf;rw[h (rest.length+1) (by omega),Cg,if_neg hr,he];simp only;rw[tokensL_fuel rest.length f _ (rest.drop n) (by rw[List.length_drop];omega) (by rw[List.length_drop];omega)];cases Cg f (passL p (rest.take n)) (rest.drop n) with
 | error e=>rfl
 | ok ts=>simp only[Except.map];split<;>simp
def Lt(t:Tok):List Dat:=[.one (.int .i64 t.kind),.one (.string t.text),.one (.int .i64 t.line),.one (.int .i64 t.col)]
def tokC(t:Tok):List Value:=[.int .i64 t.kind,.string t.text,.int .i64 t.line,.int .i64 t.col]
theorem tokAgg(F w t):Am F w (Lt t) (tokC t):=.cons (.one _) (.cons (.one _) (.cons (.one _) (.cons (.one _) .nil)))
theorem infoTok:(Tryz.prog.info? 87).map (fun i=>(i.zero,i.size,i.bytes))=some (some (.agg #[.int .i64 0,.string ByteArray.empty,.int .i64 0,.int .i64 0]),4,40):=by kernel_rfl
def PLex(r:Except (Int×Int×Int) (List Tok))(w:World)(e:Ending)(w':World):Prop:=
 Below w.heap.size w w'/\match r with
  | .ok ts=>∃a cap,e = .returned (.tuple #[.slice a ts.length cap,.int .i64 0,.agg #[.int .i64 0,.int .i64 0]])/\(ts.length<=cap/\cap<=maxLen)/\Af (fun b=>w.heap.size<=b) w' a (ts.map Lt)
  | .error x=>e = .returned (.tuple #[.slice none 0 0,.int .i64 x.1,.agg #[.int .i64 x.2.1,.int .i64 x.2.2]])
def strSize(v:Value):Nat:=match v with | .string s=>s.size|_=>0
theorem Jw{B w w'}(h:Below B w.drew w'):Below B w w':=⟨h.os,h.tape,h.output,h.size,h.block⟩
theorem Fe(w:World)(cs:List Value)(t:TypeId):∀(j:Nat) u,cs[j]? = some u->(w.alloc (.cells cs.toArray t)).cell? ((⟨w.heap.size,0,none⟩:Addr).add j)=some u:=by
 intro j u hj;have h:((⟨w.heap.size,0,none⟩:Addr).add j)=⟨w.heap.size,j,none⟩:=by unfold Addr.add;split<;>simp_all
 rw[h];unfold World.cell?;rw[heap_alloc_new]
 simpa using hj
theorem Ui(s w)(hs:s.size<=9223372036854775807)(hw:Ka w):
  Calls Tryz.prog 34 #[.string s] w (PLex (I4 s.data.toList) w):=by
 obtain⟨i0,hi,hz0,hz1,hz2⟩:=info_parts infoTok;by_cases hbig:(65536:Int)<s.size
 ·have Hr:Hid (I4 s.data.toList = .error (6,1,1)):=Lq7 (by unfold I4;rw[if_pos (by rw[Ax];omega)]);go_enter Tryz.func34,Tryz.ntmps34;go_wp2_with fail
  go_region
  all_goals
   go_wp2_with fail;refine bodyPost_ret (v:=.tuple #[.slice none 0 0,.int .i64 6,.agg #[.int .i64 1,.int .i64 1]]) (by simp[results,Tryz.results34,go_sem]) rfl ?_;rw[Hr.out]
   first|exact⟨((bRf _ w).alloc (nlr _) _).alloc (by simp) _,rfl⟩|exact⟨(((bRf _ w).alloc (nlr _) _).alloc (by simp) _).drew,rfl⟩
 ·have Hr:Hid (I4 s.data.toList=Cg (s.data.toList.length+1) (1,1) s.data.toList):=Lq7 (by unfold I4;rw[if_neg (by rw[Ax];omega)]);go_enter Tryz.func34,Tryz.ntmps34;go_wp2_with fail;obtain⟨W1,bI⟩:∃W1,W1=(w.alloc (.cells #[.int .i64 0,.int .i64 0] 28)).alloc (.cells #[.int .i64 1,.int .i64 1] 28):=⟨_,rfl⟩;rw[<-bI];have cB:Below w.heap.size w W1:=(by rw[bI];exact((bRf _ w).alloc (nlr _) _).alloc (by simp) _);have cC:W1.heap[w.heap.size]? = some (.cells #[.int .i64 0,.int .i64 0] 28 (0,0)):=(by rw[bI];exact(Below.heap_alloc _ _ _ (by simp)).trans (heap_alloc_new w _));have cD:W1.heap[w.heap.size+1]? = some (.cells #[.int .i64 1,.int .i64 1] 28 (0,0)):=(by rw[bI];have:=heap_alloc_new (w.alloc (.cells #[.int .i64 0,.int .i64 0] 28)) (.cells #[.int .i64 1,.int .i64 1] 28);simpa using this);have Hb1:=Lq7 (aIn cB (aIn cC cD));clear bI cB cC cD
  go_loopw [6,7] (fun v sv wr=>∃(acc:List Tok) (s':ByteArray) (ln cl:Int) (v':Value),v=v'/\sv = .string s'/\s'.size<=65536/\0<=ln/\0<=cl/\ln+s'.size<=65537/\cl+s'.size<=65537/\acc.length+s'.size<=65536 /\
   Hid (Ia s.data.toList (ln,cl) s'.data.toList acc)/\Hid (OwnD (fun b=>w.heap.size+2<=b) wr (w.heap.size+2) 87 4 v' (acc.map Lt))/\Hid (Below w.heap.size w wr/\wr.heap[w.heap.size]? = some (.cells #[.int .i64 0,.int .i64 0] 28 (0,0))/\wr.heap[w.heap.size+1]? = some (.cells #[.int .i64 ln,.int .i64 cl] 28 (0,0)))) (fun _ sv _=>strSize sv)
  case atStart=>exact⟨[],s,1,1,_,rfl,rfl,by omega,by omega,by omega,by omega,by omega,by simp;omega,Lq7 (Ia.start _),Lq7 (OwnD.nil _ _ _ _ _),Hb1⟩
  case round=>
   obtain⟨acc,s',ln,cl,v,hv,rfl,hs',bR,bS,hl1,hc1,hacc,bJ,hown,aB⟩:=hrel;have hv:=hv.symm;subst hv;by_cases h0:0<s'.size
   ·have hne:s'.toList.isEmpty=false:=by
     rw[Lq8];cases hl:s'.data.toList with
     | nil=>have:=Ax s';rw[hl] at this;simp at this;omega
     | cons=>rfl
    obtain⟨hb,hr,hp⟩:=aB.out;have cE:=next_any s' wr hs' h0 (hw.below hb);have bH:=Lq7 cE;clear cE;have aZ:s'.data.toList≠[]:=(by intro h;have:=Ax s';rw[h] at this;simp at this;omega);have cF:=Lq7 aZ;clear aZ hb hr hp;go_wp2_with fail;refine bH.out.mono ?_;rintro e w2 ⟨bE,hq⟩;have bL:Below w.heap.size w w2:=aB.out.1.trans (bE.mono aB.out.1.size);obtain⟨aZ,q0,q1,z0,z1⟩:=Av ((bE.block _ (agS.1 aB.out.2.1).1).trans aB.out.2.1);obtain⟨bV,p0,p1,y0,y1⟩:=Av ((bE.block _ (agS.1 aB.out.2.2).1).trans aB.out.2.2);have aH:=Lq7 (aIn bL bE);clear bL bE bH;cases hnl:C1 s'.data.toList with
    | error n=>
     have Hf:=Lq7 (bJ.out.fail cF.out hnl);have hn:=Vr hnl;rw[hnl] at hq;obtain rfl:=hq;clear hnl;rcases hn with rfl|rfl
     ·go_wp2_with fail
      go_region
      all_goals
       go_wp2_with fail;refine bodyPost_ret (v:=.tuple #[.slice none 0 0,.int .i64 2,.agg #[.int .i64 ln,.int .i64 cl]]) (by simp[results,Tryz.results34,go_sem,q0,q1,aZ]) rfl ?_;rw[Hr.out,Hf.out];have aN:=(aH.out.1.setCell (p:=⟨w.heap.size,0,none⟩) (nlr _) (.int .i64 ln)).setCell (p:=⟨w.heap.size,1,none⟩) (nlr _) (.int .i64 cl)
       first|exact⟨aN.alloc aN.size _,rfl⟩|exact⟨(aN.alloc aN.size _).drew,rfl⟩
     ·go_wp2_with fail
      go_region
      all_goals
       go_wp2_with fail;refine bodyPost_ret (v:=.tuple #[.slice none 0 0,.int .i64 3,.agg #[.int .i64 ln,.int .i64 cl]]) (by simp[results,Tryz.results34,go_sem,q0,q1,aZ]) rfl ?_;rw[Hr.out,Hf.out];have aN:=(aH.out.1.setCell (p:=⟨w.heap.size,0,none⟩) (nlr _) (.int .i64 ln)).setCell (p:=⟨w.heap.size,1,none⟩) (nlr _) (.int .i64 cl)
       first|exact⟨aN.alloc aN.size _,rfl⟩|exact⟨(aN.alloc aN.size _).drew,rfl⟩
    | ok x=>
     have hlen:=Ls hnl;have aC:=Lq7 (bJ.out.next cF.out hnl);rw[hnl] at hq;obtain⟨t,cG,rfl⟩:=hq;have cH:=Lq7 cG;obtain⟨k,ts,n⟩:=x;simp only at hlen aC cH |-;rw[Ax] at hlen;clear hnl bJ cG;obtain⟨W2,bF⟩:∃W2,W2=w2.alloc (.cells #[.int .i64 k,.string t,.int .i64 ln,.int .i64 cl] 87):=⟨_,rfl⟩;have bT:Below w2.heap.size w2 W2:=(by rw[bF];exact(bRf _ w2).alloc (nlr _) _);have aF:Below wr.heap.size wr W2:=aH.out.2.trans (bT.mono aH.out.2.size);have hz2':W2.heap.size=w2.heap.size+1:=(by rw[bF];simp);by_cases hk:0<k
     ·have aQ:=(hown.out.below aF).below ((bRf _ W2).alloc (nlr _) (.cells #[.int .i64 k,.string t,.int .i64 ln,.int .i64 cl] 87));have aJ:=Fe W2 (tokC ⟨k,t,ln,cl⟩) 87;rw[bF] at aQ aJ;rw[show(w2.alloc (.cells #[.int .i64 k,.string t,.int .i64 ln,.int .i64 cl] 87)).heap.size=w2.heap.size+1 from by simp] at aJ;have aM:=Lq7 aQ;have bC:=Lq7 aJ;have bU:=Lq7 (aIn bF (aIn aF hz2'));clear aQ aJ bF aF hz2' bT hown
      go_wp2_with (at_builtin;refine Bw rfl _ _ 76 rfl (w.heap.size+2) 87 i0 _ 4 40 Tryz.underlying76 hi hz0 hz1 hz2 rfl (by decide) v (fun b=>w.heap.size+2<=b) (acc.map Lt) rfl aM.out ⟨w2.heap.size+1,0,none⟩ 1 (Lt ⟨k,t,ln,cl⟩) (tokC ⟨k,t,ln,cl⟩) rfl rfl bC.out ?_ (tokAgg _ _ _) ?_ ?_ ?_ ?_)
      ·simp[tokC,Value.oneCell']
      ·rw[lnM];unfold maxLen;omega
      ·rw[lnM];omega
      ·have:=aH.out.1.size;simp;omega
      intro v3 w3 bD aG bA;have bM:Below w.heap.size w w3:=(((aH.out.1.alloc aH.out.1.size _).alloc (by have:=aH.out.1.size;simp;omega) _)).grown aG (by have:=aH.out.1.size;simp;omega) (fun g hg=>by have:=(aM.out.block_lt hg).1;omega);have aR:∀j,j<w2.heap.size->j<w.heap.size+2->w3.heap[j]? = wr.heap[j]?:=fun j hj hj2=>by
       rw[aG.block j (by simp;omega) (fun e=>by have:=(aM.out.block_lt e.symm).1;omega),Below.heap_alloc _ _ _ (by simp;omega),Below.heap_alloc _ _ _ hj,aH.out.2.block j (by have:=aB.out.1.size;have:=(agS.1 aB.out.2.2).1;omega)]
      have aD:Hid (Below w.heap.size w w3/\w3.heap[w.heap.size]? = some (.cells #[.int .i64 0,.int .i64 0] 28 (0,0))/\w3.heap[w.heap.size+1]? = some (.cells #[.int .i64 ln,.int .i64 cl] 28 (0,0))):=
       Lq7 ⟨bM,(aR _ aZ (by omega)).trans aB.out.2.1,(aR _ bV (by omega)).trans aB.out.2.2⟩
      have aE:Hid (OwnD (fun b=>w.heap.size+2<=b) w3 (w.heap.size+2) 87 4 v3 ((acc++[(⟨k,t,ln,cl⟩:Tok)]).map Lt)):=Lq7 (by rw[List.map_append];exact bD);have bH:Hid (Ia s.data.toList (passL (ln,cl) (s'.data.toList.take n)) (s'.data.toList.drop n) (acc++[(⟨k,t,ln,cl⟩:Tok)])):=Lq7 (by
       have h:=aC.out;rw[if_pos hk] at h;rw[show t=⟨ts.toArray⟩ from bytes_ext (by rw[cH.out])];exact h)
      clear bD aG bA bM aR q0 q1 z0 z1 p0 p1 y0 y1 aC aM bC bU aH aB aZ bV;obtain⟨aU,p0,p1,y0,y1⟩:=Av aD.out.2.2;have hn1:(n:Int)<=s'.size:=(by omega);have Hx1:Hid ((s'.extract 0 n).data.toList=s'.data.toList.take n):=Lq7 (by rw[Lib.extract_data];simp);have bW:Hid ((s'.extract n s'.size).data.toList=s'.data.toList.drop n):=Lq7 (Hi s' n);have bX:(s'.extract 0 n).size=n:=(by rw[ByteArray.size_extract];omega);have aW:(s'.extract n s'.size).size=s'.size-n:=(by rw[ByteArray.size_extract];omega);have bB:(s'.data.toList.take n).length=n:=(by rw[lnT,Ax];omega);have bN:=Km (l:=s'.data.toList.take n) (m:=65537) (r:=s'.size-n) bR bS (by rw[bB];omega) (by rw[bB];omega) (by rw[bB];omega);have bO:=Lq7 (aIn bN aW);have hxs':(s'.extract 0 n).size<=65536:=(by omega);clear bX aW bB bN;go_wp2_with fail
      go_region_with ((go_at_call 62;refine(Rn ln cl (s'.extract 0 n) _ hxs' bR (by omega) bS (by omega)).mono ?_;rintro e w5 ⟨bG,rfl⟩;obtain⟨bY,r0,r1,x0,x1⟩:=Av ((bG.block (w.heap.size+1) aU).trans aD.out.2.2);have aY:=Lq7 (Jw bG);clear bG))
      go_wp2_with fail;go_roundw
      case rel=>
       (repeat apply Exists.intro)
       refine⟨?_,rfl⟩;obtain⟨⟨g1,g2,g3,g4⟩,g5⟩:=bO.out;generalize passL (ln,cl) (s'.data.toList.take n)=q at *;refine⟨acc++[(⟨k,t,ln,cl⟩:Tok)],s'.extract n s'.size,q.1,q.2,_,rfl,rfl,by omega,g1,g3,by omega,by omega,by first|omega|(simp only[lnA,List.length_singleton];omega),Lq7 ?_,Lq7 ?_,Lq7 ?_⟩
       ·rw[bW.out];exact bH.out
       ·refine(aE.out.below aY.out).keep (fun b hb hF=>?_) (by simp);have bE:w.heap.size+2<=b:=by
         rcases hF with hF|hF
         ·exact hF
         ·exact((aE.out.below aY.out).block_lt hF).1
        rw[Ad (by omega),Ad (by omega)]
       ·refine⟨((aD.out.1.trans (aY.out.mono aD.out.1.size)).setCell (p:=⟨w.heap.size+1,0,none⟩) (by simp) _).setCell (p:=⟨w.heap.size+1,1,none⟩) (by simp) _,?_,?_⟩
        ·rw[Ad (by omega),Ad (by omega),aY.out.block _ (by have:=aD.out.1.size;have:=(agS.1 aD.out.2.1).1;exact this)];exact aD.out.2.1
        ·have h5:=(aY.out.block (w.heap.size+1) aU).trans aD.out.2.2;exact Ag (Ag h5 0 (.int .i64 q.1)) 1 (.int .i64 q.2)
      case measure=>
       have:=bO.out.2;show(s'.extract n s'.size).size<s'.size;omega
     ·have bM:Below w.heap.size w W2:=aH.out.1.trans (bT.mono aH.out.1.size);have aD:Hid (Below w.heap.size w W2/\W2.heap[w.heap.size]? = some (.cells #[.int .i64 0,.int .i64 0] 28 (0,0))/\W2.heap[w.heap.size+1]? = some (.cells #[.int .i64 ln,.int .i64 cl] 28 (0,0))):=
       Lq7 ⟨bM,(aF.block _ (agS.1 aB.out.2.1).1).trans aB.out.2.1,(aF.block _ (agS.1 aB.out.2.2).1).trans aB.out.2.2⟩
      have aE:=Lq7 (hown.out.below aF);have bH:Hid (Ia s.data.toList (passL (ln,cl) (s'.data.toList.take n)) (s'.data.toList.drop n) acc):=Lq7 (by
       have h:=aC.out;rw[if_neg hk] at h;exact h)
      have bU:=Lq7 bF;clear bM aF hz2' bT hown bF aC aH aB;go_wp2_with fail;rw[<-bU.out];clear bU q0 q1 z0 z1 p0 p1 y0 y1 aZ bV;obtain⟨aU,p0,p1,y0,y1⟩:=Av aD.out.2.2;have hn1:(n:Int)<=s'.size:=(by omega);have Hx1:Hid ((s'.extract 0 n).data.toList=s'.data.toList.take n):=Lq7 (by rw[Lib.extract_data];simp);have bW:Hid ((s'.extract n s'.size).data.toList=s'.data.toList.drop n):=Lq7 (Hi s' n);have bX:(s'.extract 0 n).size=n:=(by rw[ByteArray.size_extract];omega);have aW:(s'.extract n s'.size).size=s'.size-n:=(by rw[ByteArray.size_extract];omega);have bB:(s'.data.toList.take n).length=n:=(by rw[lnT,Ax];omega);have bN:=Km (l:=s'.data.toList.take n) (m:=65537) (r:=s'.size-n) bR bS (by rw[bB];omega) (by rw[bB];omega) (by rw[bB];omega);have bO:=Lq7 (aIn bN aW);have hxs':(s'.extract 0 n).size<=65536:=(by omega);clear bX aW bB bN;skip
      go_region_with ((go_at_call 62;refine(Rn ln cl (s'.extract 0 n) _ hxs' bR (by omega) bS (by omega)).mono ?_;rintro e w5 ⟨bG,rfl⟩;obtain⟨bY,r0,r1,x0,x1⟩:=Av ((bG.block (w.heap.size+1) aU).trans aD.out.2.2);have aY:=Lq7 (Jw bG);clear bG))
      go_wp2_with fail;go_roundw
      case rel=>
       (repeat apply Exists.intro)
       refine⟨?_,rfl⟩;obtain⟨⟨g1,g2,g3,g4⟩,g5⟩:=bO.out;generalize passL (ln,cl) (s'.data.toList.take n)=q at *;refine⟨acc,s'.extract n s'.size,q.1,q.2,_,rfl,rfl,by omega,g1,g3,by omega,by omega,by first|omega|(simp only[lnA,List.length_singleton];omega),Lq7 ?_,Lq7 ?_,Lq7 ?_⟩
       ·rw[bW.out];exact bH.out
       ·refine(aE.out.below aY.out).keep (fun b hb hF=>?_) (by simp);have bE:w.heap.size+2<=b:=by
         rcases hF with hF|hF
         ·exact hF
         ·exact((aE.out.below aY.out).block_lt hF).1
        rw[Ad (by omega),Ad (by omega)]
       ·refine⟨((aD.out.1.trans (aY.out.mono aD.out.1.size)).setCell (p:=⟨w.heap.size+1,0,none⟩) (by simp) _).setCell (p:=⟨w.heap.size+1,1,none⟩) (by simp) _,?_,?_⟩
        ·rw[Ad (by omega),Ad (by omega),aY.out.block _ (by have:=aD.out.1.size;have:=(agS.1 aD.out.2.1).1;exact this)];exact aD.out.2.1
        ·have h5:=(aY.out.block (w.heap.size+1) aU).trans aD.out.2.2;exact Ag (Ag h5 0 (.int .i64 q.1)) 1 (.int .i64 q.2)
      case measure=>
       have:=bO.out.2;show(s'.extract n s'.size).size<s'.size;omega
   ·have hne:s'.toList.isEmpty=true:=by
     rw[Lq8,List.isEmpty_iff];exact List.length_eq_zero_iff.1 (by rw[Ax];omega)
    obtain⟨hb,hr,hp⟩:=aB.out;obtain⟨aZ,q0,q1,z0,z1⟩:=Av hr;have Hb:=Lq7 hb;have Hst:Hid (Cg (s.data.toList.length+1) (1,1) s.data.toList = .ok acc):=Lq7 (by
     have h:=bJ.out;rw[show s'.data.toList=[] from List.length_eq_zero_iff.1 (by rw[Ax];omega)] at h;exact h.stop)
    obtain⟨a,cap,hva,hcap,bP⟩:=hown.out.rowAtC (fun g hg=>(hown.out.block_lt hg).1);have bZ:=Lq7 bP;have bQ:=Lq7 hcap;clear hb hr hp bJ bP hcap;go_wp2_with fail;refine bodyPost_ret (v:=.tuple #[.slice a acc.length cap,.int .i64 0,.agg #[.int .i64 0,.int .i64 0]]) (by simp[results,Tryz.results34,go_sem,q0,q1]) rfl ?_;rw[Hr.out,Hst.out];have aN:=(Hb.out.setCell (p:=⟨w.heap.size,0,none⟩) (nlr _) (.int .i64 0)).setCell (p:=⟨w.heap.size,1,none⟩) (nlr _) (.int .i64 0);refine⟨aN,a,cap,rfl,⟨by have:=bQ.out.1;simpa using this,bQ.out.2⟩,bZ.out.mono fun b hb hl=>⟨by omega,by simpa using hl,?_⟩⟩;rw[Ad (by omega),Ad (by omega)]
def tokV(t:Tok):Value:=.agg #[.int .i64 t.kind,.string t.text,.int .i64 t.line,.int .i64 t.col]
def PS(w:World)(bp:Nat)(en:Int×Int)(ts:List Tok)(dp:Int):Prop:=
 ∃a cap,w.heap[bp]? = some (.cells #[.slice a ts.length cap,.int .i64 en.1,.int .i64 en.2,.int .i64 dp] 85 (0,0))/\(ts.length<=cap/\ts.length<=70000)/\cap<=maxLen/\Af (fun b=>b<bp) w a (ts.map Lt)
def ptr(bp:Nat):Value:=.pointer (some ⟨bp,0,none⟩)
theorem PS.grown{w w' bp en ts dp}(h:PS w bp en ts dp)(hb:Below w.heap.size w w'):PS w' bp en ts dp:=by
 obtain⟨a,cap,h1,h2,h3,h4⟩:=h;exact⟨a,cap,(hb.block _ (agS.1 h1).1).trans h1,h2,h3,h4.below hb⟩
theorem tok_at{F:Nat->Prop}{w:World}{a:Option Addr}{ts:List Tok}(h:Af F w a (ts.map Lt)){k:Nat}{t:Tok}(ht:ts[k]? = some t):
  ∃b off,a=some ⟨b,off,none⟩/\F b/\b<w.heap.size/\w.cell? ⟨b,off+k*4,none⟩=some (.int .i64 t.kind)/\w.cell? ⟨b,off+k*4+1,none⟩=some (.string t.text)/\w.cell? ⟨b,off+k*4+2,none⟩=some (.int .i64 t.line)/\w.cell? ⟨b,off+k*4+3,none⟩=some (.int .i64 t.col):=by
 obtain⟨b,off,cs,ha,hF,hb,hd,hc⟩:=h k (Lt t) (by rw[lgP,ht];rfl);unfold Lt at hd hc;obtain⟨c0,cs,rfl,h0,hd⟩:=hd.cons_inv;obtain⟨c1,cs,rfl,h1,hd⟩:=hd.cons_inv;obtain⟨c2,cs,rfl,h2,hd⟩:=hd.cons_inv;obtain⟨c3,cs,rfl,h3,hd⟩:=hd.cons_inv;obtain rfl:=h0.one_inv;obtain rfl:=h1.one_inv;obtain rfl:=h2.one_inv;obtain rfl:=h3.one_inv;exact⟨b,off,ha,hF,hb,hc 0 _ rfl,hc 1 _ rfl,hc 2 _ rfl,hc 3 _ rfl⟩
def PTok(t:Tok)(w:World)(e:Ending)(w':World):Prop:=e = .returned (tokV t)/\Below w.heap.size w w'
theorem Fv(bp n:Nat)(en:Int×Int)(ts dp)(w:World)(_hn:n<=1000)(hp:PS w bp en ts dp):
  Calls Tryz.prog 106 #[ptr bp,.int .i64 n] w (PTok (Be en ts n) w):=by
 obtain⟨a,cap,h1,h2,h3,h4⟩:=hp;obtain⟨hbp,hc,hf⟩:=A5 h1;have q0:=hc 0;have q1:=hc 1;have q2:=hc 2;have q3:=hc 3;simp at q0 q1 q2 q3;clear hc hf h1;unfold maxLen at h3;unfold ptr;by_cases hlt:n<ts.length
 ·have Hd:Hid (Be en ts n=ts[n]):=Lq7 (by unfold Be;rw[lgE hlt];rfl);obtain⟨b,off,ha,hF,hb,r0,r1,r2,r3⟩:=tok_at h4 (lgE hlt);subst ha;have H4:=Lq7 h4;clear h4;generalize ts[n]=t at Hd r0 r1 r2 r3;have hlt':¬(ts.length:Int)<=(n:Int):=(by omega);go_enter Tryz.func106,Tryz.ntmps106;go_wp2_with fail;refine bodyPost_ret (v:=tokV t) (by simp[tokV,results,Tryz.results106,go_sem]) rfl ?_;rw[Hd.out];exact⟨rfl,(bRf _ _).alloc (nlr _) _⟩
 ·have Hd:Hid (Be en ts n=⟨0,⟨#[]⟩,en.1,en.2⟩):=Lq7 (by unfold Be;rw[List.getElem?_eq_none (by omega)];rfl);have hlt':(ts.length:Int)<=(n:Int):=(by omega);clear h4;go_enter Tryz.func106,Tryz.ntmps106;go_wp2_with fail;refine bodyPost_ret (v:=tokV ⟨0,⟨#[]⟩,en.1,en.2⟩) (by simp[tokV,results,Tryz.results106,go_sem]) rfl ?_;rw[Hd.out];exact⟨rfl,(bRf _ _).alloc (nlr _) _⟩
theorem F9(a b c d w):(Instr.field 87 (.agg #[a,b,c,d]) 0).run Tryz.prog w = .ok a w:=by kernel_rfl
theorem tok_text(a b c d w):(Instr.field 87 (.agg #[a,b,c,d]) 1).run Tryz.prog w = .ok b w:=by kernel_rfl
theorem Vz(a b c d w):(Instr.field 87 (.agg #[a,b,c,d]) 2).run Tryz.prog w = .ok (.agg #[c,d]) w:=by kernel_rfl
def Ry(b:Bool)(w:World)(e:Ending)(w':World):Prop:=e = .returned (.bool b)/\Below w.heap.size w w'
theorem Cx(bp n:Nat)(s)(en:Int×Int)(ts dp)(w:World)(hn:n<=1000)(hp:PS w bp en ts dp):
  Calls Tryz.prog 63 #[ptr bp,.int .i64 n,.string s] w (Ry (Bf en ts n s.data.toList) w):=by
 have Hp:=Lq7 hp;clear hp;have Hd:Hid (Bf en ts n s.data.toList=((Be en ts n).kind==4&&(Be en ts n).text.toList==s.toList)):=Lq7 (by unfold Bf;rw[Lq8,Lq8]);have aD:=Lq7 (Fv bp n en ts dp w hn Hp.out);have aB:=Lq7 (fun(w1:World) (hb:Below w.heap.size w w1)=>Fv bp n en ts dp w1 hn (Hp.out.grown hb));unfold ptr at aD aB |-;generalize Be en ts n=t at Hd aD aB;cases hk:t.kind==4
 ·have Hk:=Lq7 hk;go_enter Tryz.func63,Tryz.ntmps63;go_wp2_with fail;refine aD.out.mono ?_;rintro e w1 ⟨rfl,aC⟩;unfold tokV;have k0:=F9;have k1:=tok_text;go_wp2_with fail;go_ret;exact⟨A7 (by rw[Hd.out,Hk.out];rfl),aC⟩
 ·have Hk:=Lq7 hk;go_enter Tryz.func63,Tryz.ntmps63;go_wp2_with fail;refine aD.out.mono ?_;rintro e w1 ⟨rfl,aC⟩;unfold tokV;have k0:=F9;have k1:=tok_text;go_wp2_with fail;refine(aB.out w1 aC).mono ?_;rintro e w2 ⟨rfl,aE⟩;unfold tokV;go_wp2_with fail;go_ret;exact⟨A7 (by rw[Hd.out,Hk.out,Bool.true_and]),aC.trans (aE.mono aC.size)⟩
theorem Gw(bp s en ts dp w)(hp:PS w bp en ts dp):
  Calls Tryz.prog 107 #[ptr bp,.string s] w (Ry (Bt en ts s.data.toList) w):=by
 have Hp:=Lq7 hp;clear hp;have Hd:Hid (Bt en ts s.data.toList=((Be en ts 0).kind==1&&(Be en ts 0).text.toList==s.toList)):=Lq7 (by unfold Bt;rw[Lq8,Lq8]);have aD:=Lq7 (Fv bp 0 en ts dp w (by omega) Hp.out);have aB:=Lq7 (fun(w1:World) (hb:Below w.heap.size w w1)=>Fv bp 0 en ts dp w1 (by omega) (Hp.out.grown hb));unfold ptr at aD aB |-;generalize Be en ts 0=t at Hd aD aB;cases hk:t.kind==1
 ·have Hk:=Lq7 hk;go_enter Tryz.func107,Tryz.ntmps107;go_wp2_with fail;refine aD.out.mono ?_;rintro e w1 ⟨rfl,aC⟩;unfold tokV;have k0:=F9;have k1:=tok_text;go_wp2_with fail;go_ret;exact⟨A7 (by rw[Hd.out,Hk.out];rfl),aC⟩
 ·have Hk:=Lq7 hk;go_enter Tryz.func107,Tryz.ntmps107;go_wp2_with fail;refine aD.out.mono ?_;rintro e w1 ⟨rfl,aC⟩;unfold tokV;have k0:=F9;have k1:=tok_text;go_wp2_with fail;refine(aB.out w1 aC).mono ?_;rintro e w2 ⟨rfl,aE⟩;unfold tokV;go_wp2_with fail;go_ret;exact⟨A7 (by rw[Hd.out,Hk.out,Bool.true_and]),aC.trans (aE.mono aC.size)⟩
theorem Pn(w:World)(t:TypeId)(zs:List ByteArray):∀j,j<zs.length->(w.alloc (.cells (zs.map Value.string).toArray t)).cell? ⟨w.heap.size,0+j,none⟩=some (.string (zs.getD j ByteArray.empty)):=by
 intro j hj;unfold World.cell?;rw[heap_alloc_new,Nat.zero_add];simp[hj]
theorem Kw(zs:List (List UInt8))(s):Lib.containsS (zs.map bs) s=zs.contains s.data.toList:=by
 rw[Bool.eq_iff_iff,Lib.containsS_iff,List.contains_iff_mem,List.mem_map]
 constructor
 ·rintro⟨l,hl,rfl⟩;exact hl
 ·intro h;exact⟨_,h,bytes_ext rfl⟩
theorem Ql(s w):Calls Tryz.prog 126 #[.string s] w (Ry (reservedL.contains s.data.toList) w):=by
 have Hc:=Lq7 (Tryz.slices_Contains_string w.heap.size 0 6 6 (reservedL.map bs) s (w.alloc (.cells ((reservedL.map bs).map Value.string).toArray 9)) (by decide) (by omega) (Pn w 9 (reservedL.map bs)));go_enter Tryz.func126,Tryz.ntmps126;go_wp2_with fail;refine Hc.out.mono ?_;rintro e w1 ⟨rfl,rfl⟩;rw[ltL (by decide),Kw];go_wp2_with fail;go_ret;exact⟨A7 (by simp),(bRf _ w).alloc (nlr _) _⟩
theorem Tn(s w):Calls Tryz.prog 130 #[.string s] w (Ry (typesL.contains s.data.toList) w):=by
 have Hc:=Lq7 (Tryz.slices_Contains_string w.heap.size 0 6 6 (typesL.map bs) s (w.alloc (.cells ((typesL.map bs).map Value.string).toArray 9)) (by decide) (by omega) (Pn w 9 (typesL.map bs)));go_enter Tryz.func130,Tryz.ntmps130;go_wp2_with fail;refine Hc.out.mono ?_;rintro e w1 ⟨rfl,rfl⟩;rw[ltL (by decide),Kw];go_wp2_with fail;go_ret;exact⟨A7 (by simp),(bRf _ w).alloc (nlr _) _⟩
theorem Dz(bp en ts dp w)(hp:PS w bp en ts dp):
  Calls Tryz.prog 109 #[ptr bp] w (Ry (Bk en ts) w):=by
 have Hp:=Lq7 hp;clear hp;have Hd:Hid (Bk en ts=((Be en ts 0).kind==1 && !reservedL.contains (Be en ts 0).text.data.toList)):=Lq7 rfl;have aD:=Lq7 (Fv bp 0 en ts dp w (by omega) Hp.out);have aB:=Lq7 (fun(w1:World) (hb:Below w.heap.size w w1)=>Fv bp 0 en ts dp w1 (by omega) (Hp.out.grown hb));unfold ptr at aD aB |-;generalize Be en ts 0=t at Hd aD aB;cases hk:t.kind==1
 ·have Hk:=Lq7 hk;go_enter Tryz.func109,Tryz.ntmps109;go_wp2_with fail;refine aD.out.mono ?_;rintro e w1 ⟨rfl,aC⟩;unfold tokV;have k0:=F9;have k1:=tok_text;go_wp2_with fail;go_ret;exact⟨A7 (by rw[Hd.out,Hk.out];rfl),aC⟩
 ·have Hk:=Lq7 hk;go_enter Tryz.func109,Tryz.ntmps109;go_wp2_with fail;refine aD.out.mono ?_;rintro e w1 ⟨rfl,aC⟩;unfold tokV;have k0:=F9;have k1:=tok_text;go_wp2_with fail;refine(aB.out w1 aC).mono ?_;rintro e w2 ⟨rfl,hb2⟩;unfold tokV;go_wp2_with fail;refine(Ql t.text _).mono ?_;rintro e w3 ⟨rfl,hb3⟩;have aE:=aC.trans (hb2.mono aC.size);go_wp2_with fail;go_ret;exact⟨A7 (by rw[Hd.out,Hk.out,Bool.true_and];simp),aE.trans (hb3.mono aE.size)⟩
def L0(e l c:Int):Value:=.iface 80 (.agg #[.int .i64 e,.int .i64 l,.int .i64 c])
def PP{α:Type}(bp:Nat)(en:Int×Int)(val:α->World->Value->Prop)(r:PR α)(w:World)(e:Ending)(w':World):Prop:=
 w.grownBy w' (some bp)/\match r with
  | .ok x ts dp=>PS w' bp en ts dp/\∃v,e = .returned v/\val x w' v
  | .err a l c=>e = .panicked [{ v:=L0 a l c,recovered:=false}]
  | .out=>True
theorem Rz(bp n en ts dp w)(hp:PS w bp en ts dp):
  Calls Tryz.prog 154 #[ptr bp,.int .i64 n] w (fun e w'=>e = .panicked [{ v:=L0 n (Be en ts 0).line (Be en ts 0).col,recovered:=false}]/\Below w.heap.size w w'):=by
 have aB:=Lq7 (Fv bp 0 en ts dp w (by omega) hp);unfold ptr at aB |-;generalize Be en ts 0=t at aB |-;go_enter Tryz.func154,Tryz.ntmps154;go_wp2_with fail;refine aB.out.mono ?_;rintro e w1 ⟨rfl,aC⟩;unfold tokV;have k2:=Vz;go_wp2_with fail;exact⟨rfl,rfl,aC⟩
theorem Af.grown{w w' bp a l}(h:Af (fun b=>b<bp) w a l)(hg:w.grownBy w' (some bp)):Af (fun b=>b<bp) w' a l:=
 h.mono fun b hb hl=>⟨hb,nll hl hg.size,hg.block b hl (fun e=>by cases e;omega)⟩
theorem PS.of_set{w w1:World}{bp:Nat}{en:Int×Int}{ts:List Tok}{dp:Int}{l0 e1 e2 d0:Value}{a:Option Addr}{cap:Nat}(hb:Below w.heap.size w w1)(h1:w.heap[bp]? = some (.cells #[l0,e1,e2,d0] 85 (0,0)))
  (he1:e1 = .int .i64 en.1) (he2:e2 = .int .i64 en.2) (hd:d0 = .int .i64 dp) (hc:ts.length<=cap/\ts.length<=70000) (hm:cap<=maxLen) (h4:Af (fun b=>b<bp) w a (ts.map Lt)) (x0 x1 x2 x3:Value) (o:Obj):
  let X:=((((((w1.setCell ⟨bp,0,none⟩ (.slice a ts.length cap)).setCell ⟨w.heap.size,0,none⟩ x0).setCell ⟨w.heap.size,1,none⟩ x1).setCell ⟨w.heap.size,2,none⟩ x2).setCell ⟨w.heap.size,3,none⟩ x3).alloc o)
  w.grownBy X (some bp)/\PS X bp en ts dp:=by
 intro X;have aF:=(agS.1 h1).1;have aG:bp<w1.heap.size:=nll aF hb.size;have hg:w.grownBy X (some bp):=Fg (Dr (Dr (Dr (Dr (Ew (Bg hb) _ _) (nlr _) _ _) (nlr _) _ _) (nlr _) _ _) (nlr _) _ _) o;refine⟨hg,a,cap,?_,hc,hm,h4.grown hg⟩;show((((((w1.setCell ⟨bp,0,none⟩ (.slice a ts.length cap)).setCell ⟨w.heap.size,0,none⟩ x0).setCell ⟨w.heap.size,1,none⟩ x1).setCell ⟨w.heap.size,2,none⟩ x2).setCell ⟨w.heap.size,3,none⟩ x3).alloc o).heap[bp]? = _;rw[Below.heap_alloc _ _ _ (by simpa using aG),Ad (by omega),Ad (by omega),Ad (by omega),Ad (by omega),Ag ((hb.block bp aF).trans h1) 0 (.slice a ts.length cap),he1,he2,hd];rfl
def VTok(t:Tok)(_:World)(v:Value):Prop:=v=tokV t
theorem Bp(bp is en ts dp w)(hp:PS w bp en ts dp)(hr:Bc en is ts dp ≠ .out):
  Calls Tryz.prog 108 #[ptr bp,.bool is] w (PP bp en VTok (Bc en is ts dp) w):=by
 cases is with
 | false=>
  have aH:Bc en false ts dp = .err 3 (Be en ts 0).line (Be en ts 0).col:=rfl;rw[aH];have Hf:=Lq7 (fun(w1:World) (hb:Below w.heap.size w w1)=>Rz bp 3 en ts dp w1 (hp.grown hb));unfold ptr at Hf |-;generalize Be en ts 0=t at Hf |-;go_enter Tryz.func108,Tryz.ntmps108;go_wp2_with fail;refine(Hf.out _ ((bRf _ w).alloc (nlr _) _)).mono ?_;rintro e w1 ⟨rfl,aC⟩;exact⟨rfl,Bg (((bRf _ w).alloc (nlr _) _).trans (aC.mono (by simp))),rfl⟩
 | true=>
  cases ts with
  | nil=>exact absurd rfl hr
  | cons t r=>
   have aH:Bc en true (t::r) dp = .ok t r dp:=rfl;rw[aH];have Hp:=Lq7 hp;have aB:=Lq7 (fun(w1:World) (hb:Below w.heap.size w w1)=>Fv bp 0 en (t::r) dp w1 (by omega) (hp.grown hb));rw[show Be en (t::r) 0=t from rfl] at aB;obtain⟨a,cap,h1,h2,h3,h4⟩:=Hp.out;obtain⟨b,off,ha,hF,hbl,-⟩:=tok_at h4 (k:=0) (t:=t) rfl;subst ha;have H4:=Lq7 h4;have H1:=Lq7 h1;simp only[lnC] at h2;unfold maxLen at h3;unfold ptr at aB |-;go_enter Tryz.func108,Tryz.ntmps108;go_wp2_with fail;have aJ:Below w.heap.size w (w.alloc (.cells #[.int .i64 0,.string ⟨#[]⟩,.int .i64 0,.int .i64 0] 87)):=(bRf _ w).alloc (nlr _) _;refine(aB.out _ aJ).mono ?_;rintro e w1 ⟨rfl,aC⟩;have aD:=aJ.trans (aC.mono aJ.size);obtain⟨aF,hc,hf⟩:=A5 ((aD.block bp (agS.1 H1.out).1).trans H1.out);obtain⟨aM,hc',hf'⟩:=A5 (Ev aC);have q0:=hc 0;have z0:=hf 0;have r0:=hc' 0;have r1:=hc' 1;have r2:=hc' 2;have r3:=hc' 3;have y0:=hf' 0;have y1:=hf' 1;have y2:=hf' 2;have y3:=hf' 3;simp at q0 r0 r1 r2 r3;have hbpw:=(agS.1 H1.out).1;have Hb:=Lq7 aD;unfold tokV;have h2':(1:Int)<=(r.length:Int)+1:=(by omega);by_cases hcap:cap=1
   ·subst hcap;have hr0:r=[]:=List.length_eq_zero_iff.1 (by omega);subst hr0;go_wp2_with fail;refine bodyPost_ret (v:=tokV t) (by simp[tokV,results,Tryz.results108,go_sem,r0,r1,r2,r3,aM]) rfl ?_;obtain⟨g1,g2⟩:=PS.of_set (ts:=[]) (a:=some ⟨b,off,none⟩) (cap:=0) Hb.out H1.out rfl rfl rfl ⟨nlr _,nlz _⟩ (nlz _) (Af.nil _) (.int .i64 t.kind) (.string t.text) (.int .i64 t.line) (.int .i64 t.col) (.cells #[.int .i64 t.kind,.string t.text,.int .i64 t.line,.int .i64 t.col] 87);exact⟨g1,g2,_,rfl,rfl⟩
   ·have hcap2:¬cap=1:=hcap;go_wp2_with fail;refine bodyPost_ret (v:=tokV t) (by simp[tokV,results,Tryz.results108,go_sem,r0,r1,r2,r3,aM]) rfl ?_;have aE:Af (fun b=>b<bp) w (some ⟨b,off+4,none⟩) (r.map Lt):=by
     have:=H4.out.drop (n:=4) (fun ds hds=>by obtain⟨x,-,rfl⟩:=List.mem_map.1 hds;rfl) 1
     simpa using this
    obtain⟨g1,g2⟩:=PS.of_set (ts:=r) (a:=some ⟨b,off+4,none⟩) (cap:=cap - 1) Hb.out H1.out rfl rfl rfl (by omega) (by unfold maxLen;omega) aE (.int .i64 t.kind) (.string t.text) (.int .i64 t.line) (.int .i64 t.col) (.cells #[.int .i64 t.kind,.string t.text,.int .i64 t.line,.int .i64 t.col] 87);exact⟨g1,g2,_,rfl,rfl⟩
theorem G5{α β}{m:PM α}{f:α->PM β}{ts ts' d d'}{x:α}(h:m ts d = .ok x ts' d'):PM.bind m f ts d=f x ts' d':=by unfold PM.bind;rw[h]
theorem Ga{α β}{m:PM α}{f:α->PM β}{ts d a b c}(h:m ts d = .err a b c):PM.bind m f ts d = .err a b c:=by unfold PM.bind;rw[h]
theorem Da{α β}{m:PM α}{f:α->PM β}{ts d}(h:m ts d = .out):PM.bind m f ts d = .out:=by unfold PM.bind;rw[h]
theorem PS.kept{w w' bp en ts dp}(h:PS w bp en ts dp)(hb:w'.heap[bp]? = w.heap[bp]?)(hk:∀b,b<bp->b<w.heap.size->w'.heap[b]? = w.heap[b]?)(hs:w.heap.size<=w'.heap.size):PS w' bp en ts dp:=by
 obtain⟨a,cap,h1,h2,h3,h4⟩:=h;exact⟨a,cap,hb.trans h1,h2,h3,h4.mono fun b hF hl=>⟨hF,nll hl hs,hk b hF hl⟩⟩
def VUnit(_:Unit)(_:World)(v:Value):Prop:=v = .tuple #[]
theorem Ez(bp s en ts dp w)(hp:PS w bp en ts dp)(hr:C8 en s.data.toList ts dp ≠ .out):
  Calls Tryz.prog 114 #[ptr bp,.string s] w (PP bp en VUnit (C8 en s.data.toList ts dp) w):=by
 have Hs:=Lq7 (Cx bp 0 s en ts dp w (by omega) hp);have Ht:=Lq7 (fun(w1:World) (hb:Below w.heap.size w w1) (is:Bool) (h:Bc en is ts dp ≠ .out)=>Bp bp is en ts dp w1 (hp.grown hb) h);have He:Hid (C8 en s.data.toList ts dp=PM.bind (Bc en (Bf en ts 0 s.data.toList)) (fun _=>PM.pure ()) ts dp):=Lq7 rfl;have Hr:=Lq7 hr;unfold ptr at Hs Ht |-;generalize Bf en ts 0 s.data.toList=b at Hs He;go_enter Tryz.func114,Tryz.ntmps114;go_wp2_with fail;refine Hs.out.mono ?_;rintro e w1 ⟨rfl,aE⟩;have aF:Bc en b ts dp ≠ .out:=fun h=>Hr.out (by rw[He.out,Da h]);have aC:=Lq7 (Ht.out w1 aE b aF);go_wp2_with fail;refine aC.out.mono ?_;rintro e w2 ⟨aB,hq⟩;have Hg:Hid (w.grownBy w2 (some bp)):=Lq7 (Ae (Bg aE) aB);cases hm:Bc en b ts dp with
 | out=>exact absurd (by rw[He.out,Da hm]) Hr.out
 | err a l c=>
  rw[hm] at hq;obtain rfl:=hq;rw[He.out,Ga hm];exact⟨rfl,Hg.out,rfl⟩
 | ok x ts' d'=>
  rw[hm] at hq;obtain⟨aH,v,rfl,hv⟩:=hq;have aJ:=Lq7 aH;have Hf:Hid (C8 en s.data.toList ts dp = .ok () ts' d'):=Lq7 (by rw[He.out,G5 hm];rfl);go_wp2_with fail
  go_end0
  rw[Hf.out];exact⟨Hg.out,aJ.out,_,rfl,rfl⟩
theorem Id(bp s en ts dp w)(hd0:0<=dp)(hd1:dp<=1000)(hp:PS w bp en ts dp)(hr:C2 en s.data.toList ts dp ≠ .out):
  Calls Tryz.prog 157 #[ptr bp,.string s] w (PP bp en VUnit (C2 en s.data.toList ts dp) w):=by
 have aF:C8 en s.data.toList ts dp ≠ .out:=fun h=>hr (by unfold C2;rw[Da h]);have aC:=Lq7 (Ez bp s en ts dp w hp aF);have hdd:∀x ts' d',C8 en s.data.toList ts dp = .ok x ts' d'->d'=dp:=by
  intro x ts' d' h;unfold C8 PM.bind Bc at h;split at h
  ·rename_i h2
   split at h2
   ·split at h2
    ·cases h2
    ·cases h2;cases h;rfl
   ·cases h2
  ·cases h
  ·cases h
 have Hdd:=Lq7 hdd;have Hne:=Lq7 aF;unfold ptr at aC |-;cases hm:C8 en s.data.toList ts dp with
 | out=>exact absurd hm Hne.out
 | err a l c=>
  have Hf:Hid (C2 en s.data.toList ts dp = .err a l c):=Lq7 (by unfold C2;rw[Ga hm]);rw[hm] at aC;rw[Hf.out];go_enter Tryz.func157,Tryz.ntmps157;go_wp2_with fail;refine aC.out.mono ?_;rintro e w2 ⟨aB,rfl⟩;exact⟨rfl,aB,rfl⟩
 | ok x ts' d'=>
  obtain rfl:=Hdd.out _ _ _ hm;have Hf:Hid (C2 en s.data.toList ts d' = .ok () ts' (d' - 1)):=Lq7 (by unfold C2;rw[G5 hm];rfl);rw[hm] at aC;rw[Hf.out];go_enter Tryz.func157,Tryz.ntmps157;go_wp2_with fail;refine aC.out.mono ?_;rintro e w2 ⟨aB,⟨a,cap,h1,h2,h3,h4⟩,v,rfl,-⟩;obtain⟨aM,hc,hf⟩:=A5 h1;have q3:=hc 3;have z3:=hf 3;simp at q3;have H1:=Lq7 h1;have H4:=Lq7 h4;go_wp2_with fail
  go_end0
  refine⟨Ew aB 3 _,⟨a,cap,Ag H1.out 3 _,h2,h3,H4.out.grown (Ew (C5 _ _) 3 _)⟩,_,rfl,rfl⟩
theorem Ie(bp is en ts dp w)(hd0:0<=dp)(hd1:dp<=1000)(hp:PS w bp en ts dp)(hr:Db en is ts dp ≠ .out):
  Calls Tryz.prog 156 #[ptr bp,.bool is] w (PP bp en VTok (Db en is ts dp) w):=by
 have aN:Below w.heap.size w (w.alloc (.cells #[.int .i64 0,.string ⟨#[]⟩,.int .i64 0,.int .i64 0] 87)):=(bRf _ w).alloc (nlr _) _;by_cases hc:is=true/\60<=dp
 ·obtain⟨rfl,hge⟩:=hc;have aQ:Db en true ts dp = .err 6 (Be en ts 0).line (Be en ts 0).col:=(by unfold Db;rw[Bool.true_and,decide_eq_true hge,if_pos rfl];rfl);rw[aQ];have Hf:=Lq7 (fun(w1:World) (hb:Below w.heap.size w w1)=>Rz bp 6 en ts dp w1 (hp.grown hb));obtain⟨a,cap,h1,-,-,-⟩:=hp;obtain⟨aM,aR,hf⟩:=A5 h1;have q3:=aR 3;simp at q3;unfold ptr at Hf |-;generalize Be en ts 0=t at Hf |-;go_enter Tryz.func156,Tryz.ntmps156;go_wp2_with fail;refine(Hf.out _ aN).mono ?_;rintro e w1 ⟨rfl,aE⟩;exact⟨rfl,Bg (aN.trans (aE.mono aN.size)),rfl⟩
 ·have aQ:Db en is ts dp=Bc en is ts (dp+1):=by
   unfold Db;cases is with
   | false=>rfl
   | true=>rw[Bool.true_and,decide_eq_false (fun h=>hc ⟨rfl,h⟩)];rfl
  rw[aQ] at hr |-;have Hp:=Lq7 hp;have Ht:=Lq7 (fun(w1:World) (h:PS w1 bp en ts (dp+1))=>Bp bp is en ts (dp+1) w1 h hr);obtain⟨a,cap,h1,h2,h3,h4⟩:=hp;obtain⟨aM,aR,hf⟩:=A5 h1;have q3:=aR 3;have z3:=hf 3;simp at q3;have H1:=Lq7 h1;have H4:=Lq7 h4;have Hr:=Lq7 hr;have aD:is=false\/(is=true/\¬60<=dp):=by
   cases is with
   | false=>exact .inl rfl
   | true=>exact .inr ⟨rfl,fun h=>hc ⟨rfl,h⟩⟩
  unfold ptr at Ht |-;rcases aD with rfl|⟨rfl,hlt⟩
  all_goals
   go_enter Tryz.func156,Tryz.ntmps156;go_wp2_with fail;obtain⟨W3,aG⟩:∃W3,W3=(w.setCell ⟨bp,3,none⟩ (.int .i64 (dp+1))).alloc (.cells #[.int .i64 0,.string ⟨#[]⟩,.int .i64 0,.int .i64 0] 87):=⟨_,rfl⟩;rw[<-aG];have aY:w.grownBy W3 (some bp):=(by rw[aG];exact Fg (Ew (C5 w _) 3 _) _);have aU:PS W3 bp en ts (dp+1):=by
    refine⟨a,cap,?_,h2,h3,H4.out.grown aY⟩;rw[aG,Below.heap_alloc _ _ _ (by simpa using aM)];exact Ag H1.out 3 _
   have hr3:W3.heap[w.heap.size]? = some (.cells #[.int .i64 0,.string ⟨#[]⟩,.int .i64 0,.int .i64 0] 87 (0,0)):=by
    rw[aG];have:=heap_alloc_new (w.setCell ⟨bp,3,none⟩ (.int .i64 (dp+1))) (.cells #[.int .i64 0,.string ⟨#[]⟩,.int .i64 0,.int .i64 0] 87)
    simpa using this
   have aW:=Lq7 (aIn aY hr3);have Ht3:=Lq7 (Ht.out W3 aU);refine Ht3.out.mono ?_;rintro e w2 ⟨aB,hq⟩;have Hg:Hid (w.grownBy w2 (some bp)):=Lq7 (Ae aW.out.1 aB);obtain⟨hbr,hcs',hf'⟩:=A5 ((aB.block _ (agS.1 aW.out.2).1 (by intro e;cases e;omega)).trans aW.out.2);have r0:=hcs' 0;have r1:=hcs' 1;have r2:=hcs' 2;have r3:=hcs' 3;have y0:=hf' 0;have y1:=hf' 1;have y2:=hf' 2;have y3:=hf' 3;simp at r0 r1 r2 r3;cases hm:Bc en _ ts (dp+1) with
   | out=>exact absurd hm Hr.out
   | err x l c=>
    rw[hm] at hq;obtain rfl:=hq;exact⟨rfl,Hg.out,rfl⟩
   | ok x ts' d'=>
    rw[hm] at hq;obtain⟨aH,v,rfl,rfl⟩:=hq;have aJ:=Lq7 aH;have Hm:=Lq7 hm;unfold tokV;go_wp2_with fail;refine bodyPost_ret (v:=tokV x) (by simp[tokV,results,Tryz.results156,go_sem,r0,r1,r2,r3]) rfl ?_;rw[Hm.out];have hbw:bp≠w.heap.size:=(by omega);have aZ:∀b,b≠w.heap.size->((((w2.setCell ⟨w.heap.size,0,none⟩ (.int .i64 x.kind)).setCell ⟨w.heap.size,1,none⟩ (.string x.text)).setCell ⟨w.heap.size,2,none⟩ (.int .i64 x.line)).setCell ⟨w.heap.size,3,none⟩ (.int .i64 x.col)).heap[b]? = w2.heap[b]?:=fun b hb=>by
     rw[Ad hb,Ad hb,Ad hb,Ad hb]
    exact⟨Dr (Dr (Dr (Dr Hg.out (nlr _) _ _) (nlr _) _ _) (nlr _) _ _) (nlr _) _ _,aJ.out.kept (aZ _ hbw) (fun b hb _=>aZ b (by omega)) (by simp),_,rfl,rfl⟩
def C6(kind:Int)(t:Tok)(text:ByteArray)(a:Option Addr)(n cap:Nat):Value:=.agg #[.int .i64 kind,.string text,.int .i64 t.line,.int .i64 t.col,.slice a n cap]
theorem Bq(kind t text a n cap w):
  Calls Tryz.prog 37 #[.int .i64 kind,tokV t,.string text,.slice a n cap] w (fun e w'=>e = .returned (C6 kind t text a n cap)/\Below w.heap.size w w'):=by
 unfold tokV C6;go_enter Tryz.func37,Tryz.ntmps37;go_wp2_with fail;refine bodyPost_ret (v:=C6 kind t text a n cap) (by simp[C6,results,Tryz.results37,go_sem]) rfl ?_;exact⟨rfl,((bRf _ w).alloc (nlr _) _).alloc (by simp) _⟩
def C7(B:Nat)(x:Nd)(w:World)(v:Value):Prop:=A3 (fun b=>B<=b) w x v
def Mt(B:Nat)(l:List Nd)(w:World)(v:Value):Prop:=∃a cap,v = .slice a l.length cap/\Af (fun b=>B<=b) w a (A2 l)
def VOwn(B:Nat)(l:List Nd)(w:World)(v:Value):Prop:=OwnD (fun b=>B<=b) w B 49 5 v (A2 l)/\l.length<=200000
theorem VOwn.row{B l w v}(h:VOwn B l w v):Mt B l w v:=by
 obtain⟨a,cap,bG,aH⟩:=h.1.rowAt (fun g hg=>(h.1.block_lt hg).1);rw[Ao] at bG;exact⟨a,cap,bG,aH⟩
theorem PP.weaker{α bp en}{val val':α->World->Value->Prop}{r:PR α}{w w' e}(h:PP bp en val r w e w')(hv:∀x v,val x w' v->val' x w' v):PP bp en val' r w e w':=by
 refine⟨h.1,?_⟩;have h2:=h.2;cases r with
 | ok x ts dp=>obtain⟨h3,v,h4,h5⟩:=h2;exact⟨h3,v,h4,hv x v h5⟩
 | err a l c=>exact h2
 | out=>trivial
def Eg{α:Type}(f bp:Nat)(en:Int×Int)(val:Nat->α->World->Value->Prop)(m:PM α):Prop:=
 ∀(w:World) (ts:List Tok) (dp:Int),PS w bp en ts dp->0<=dp->dp<=1000->m ts dp ≠ .out->Calls Tryz.prog f #[ptr bp] w (PP bp en (val w.heap.size) (m ts dp) w)
theorem PS.lt{w bp en ts dp}(h:PS w bp en ts dp):bp<w.heap.size:=let ⟨_,_,h1,_⟩:=h;(agS.1 h1).1
theorem PS.few{w bp en ts dp}(h:PS w bp en ts dp):ts.length<=70000:=let ⟨_,_,_,h2,_⟩:=h;h2.2
theorem PS.own{w w':World}{bp:Nat}{en:Int×Int}{ts:List Tok}{dp:Int}{v:Value}(h:PS w bp en ts dp)(k:w.grownBy w' v.ownBlock)(hv:∀g,v.ownBlock=some g->bp<g):PS w' bp en ts dp:=
 h.kept (k.block bp h.lt (fun e=>by have:=hv bp e.symm;omega)) (fun b hb hl=>k.block b hl (fun e=>by have:=hv b e.symm;omega)) k.size
theorem R0(bp tt f fa lb one en ts dp w)(hd0:0<=dp)(hd1:dp<=1000)(hp:PS w bp en ts dp)(henter:∀(args:Array Value) (w:World),(callFunc f args).run Tryz.prog w = .ok (.enter f args) w)(hone:∀(w1:World) (ts1:List Tok),w.grownBy w1 (some bp)->PS w1 bp en ts1 dp->one ts1 dp ≠ .out->Calls Tryz.prog f (fa++lb) w1 (PP bp en (Mt w1.heap.size) (one ts1 dp) w1))(hinc:Inc 0 one)(hlen:∀ts d l ts' d',one ts d = .ok l ts' d'->l≠[]/\l.length<=2)(hr:Dc en tt.data.toList one ts dp ≠ .out):
  Calls Tryz.prog 158 #[ptr bp,.string tt,.func (.func f) fa lb] w (PP bp en (VOwn w.heap.size) (Dc en tt.data.toList one ts dp) w):=by
 obtain⟨i0,hi,bT,bU,bV⟩:=info_parts infoNode;have hfew:=hp.few;have hbpl:=hp.lt;have Hp:=Lq7 hp;have bH:=Lq7 hone;have bI:=Lq7 hlen;have Hr:=Lq7 hr;unfold ptr;go_enter Tryz.func158,Tryz.ntmps158;go_wp2_with fail
 go_loopg [7] (ts.length+1) (fun g v wr=>∃(acc:List Nd) (ts1:List Tok) (v':Value),v=v'/\g<=ts.length+1/\acc.length+2*g<=2*(ts.length+1)/\Hid (Dc en tt.data.toList one ts dp=Ej en tt.data.toList one g acc ts1 dp)/\Hid (w.grownBy wr (some bp)/\PS wr bp en ts1 dp)/\Hid (OwnD (fun b=>w.heap.size<=b) wr w.heap.size 49 5 v' (A2 acc)))
 case atStart=>exact⟨[],ts,_,rfl,nlr _,by simp,Lq7 rfl,Lq7 ⟨C5 _ _,Hp.out⟩,Lq7 (OwnD.nil _ _ _ _ _)⟩
 case round=>
  obtain⟨acc,ts1,v,hv,hg1,bF,aJ,bJ,hown⟩:=hrel;have hv:=hv.symm;subst hv;cases gk with
  | zero=>exact absurd aJ.out Hr.out
  | succ g=>
   have Hs:=Lq7 (Cx bp 0 tt en ts1 dp wr (by omega) bJ.out.2);unfold ptr at Hs;cases hb:Bf en ts1 0 tt.data.toList
   ·rw[hb] at Hs;have aY:Hid (Dc en tt.data.toList one ts dp=PM.bind (if acc=[] then PM.pure () else C8 en [44]) (fun _=>PM.bind one fun l=>Ej en tt.data.toList one g (acc++l)) ts1 dp):=Lq7 (by rw[aJ.out,Ej,Ce,hb];rfl);go_wp2_with fail;refine Hs.out.mono ?_;rintro e w1 ⟨rfl,aZ⟩;have aF:Hid (w.grownBy w1 (some bp)/\PS w1 bp en ts1 dp):=Lq7 ⟨Ae bJ.out.1 (Bg aZ),bJ.out.2.grown aZ⟩;have aB:=Lq7 (hown.out.below aZ);obtain⟨a,cap,bG,-⟩:=aB.out.rowAt (fun g hg=>(aB.out.block_lt hg).1);rw[Ao] at bG;subst bG;cases acc with
    | nil=>
     have aG:Hid (Dc en tt.data.toList one ts dp=PM.bind one (fun l=>Ej en tt.data.toList one g ([]++l)) ts1 dp):=Lq7 (by rw[aY.out,if_pos rfl];rfl);have bN:one ts1 dp ≠ .out:=fun h=>Hr.out (by rw[aG.out,Da h]);have Ho:=Lq7 (bH.out w1 ts1 aF.out.1 aF.out.2 bN);have hws:w.heap.size<=w1.heap.size:=aF.out.1.size;go_wp2_with fail;refine Ho.out.mono ?_;rintro e w3 ⟨bL,hq⟩;have aM:=Lq7 (aIn (Ae aF.out.1 bL) bL);cases hm:one ts1 dp with
     | out=>exact absurd (by rw[aG.out,Da hm]) Hr.out
     | err x l c=>
      rw[hm] at hq;obtain rfl:=hq;have Hf:Hid (Dc en tt.data.toList one ts dp = .err x l c):=Lq7 (by rw[aG.out,Ga hm]);refine⟨rfl,?_⟩;rw[Hf.out];exact⟨aM.out.1,rfl⟩
     | ok l ts3 d3=>
      have bO:d3=dp:=(by have:=hinc _ _ _ _ _ hm;omega);subst bO;obtain⟨bP,hl2⟩:=bI.out _ _ _ _ _ hm;rw[hm] at hq;obtain⟨bA,v,rfl,a2,bB,rfl,aH⟩:=hq;have bQ:∃b2 aC,a2=some ⟨b2,aC,none⟩:=by
       cases l with
       | nil=>exact absurd rfl bP
       | cons n t=>
        obtain⟨b2,aC,cs,ha,-⟩:=aH 0 (nodeD n) (by rw[Cj];rfl);exact⟨b2,aC,ha⟩
      obtain⟨b2,aC,rfl⟩:=bQ;have bC:Hid (Dc en tt.data.toList one ts d3=Ej en tt.data.toList one g ([]++l) ts3 d3):=Lq7 (by rw[aG.out,G5 hm]);have aD:Hid (OwnD (fun b=>w.heap.size<=b) w3 w.heap.size 49 5 (.slice a 0 cap) (A2 [])):=Lq7 (aB.out.keep (fun b hb hF=>aM.out.2.block b hb (by
       intro e;cases e;rcases hF with hF|hF
       ·omega
       ·have:=(aB.out.block_lt hF).1;omega)) aM.out.2.size)
      have aN:Hid (Af (fun b=>w.heap.size<=b/\(Value.slice a 0 cap).ownBlock≠some b) w3 (some ⟨b2,aC,none⟩) (A2 l)):=Lq7 (aH.wider (fun b hb _=>⟨by omega,fun e=>by have:=(aB.out.block_lt e).2;omega⟩));have bD:=Lq7 bA
      go_wp2_with (at_builtin;refine Bx rfl _ _ 36 rfl w.heap.size 49 i0 _ 5 64 Tryz.underlying36 hi bT bU bV rfl (by decide) (.slice a 0 cap) (fun b=>w.heap.size<=b) (A2 []) rfl aD.out b2 aC bB (A2 l) ?_ aN.out (Cc Dy l) (Cc D3 l) ?_ ?_ ?_ ?_)
      ·rw[Ao];rfl
      ·rw[Ao,Ao];unfold maxLen;simp only[lnN] at bF |-;omega
      ·rw[Ao,Ao];simp only[lnN] at bF |-;omega
      ·exact aM.out.1.size
      intro v4 w4 aQ aE _;have bE:Hid (w.grownBy w4 (some bp)/\PS w4 bp en ts3 d3):=Lq7 ⟨Gc aM.out.1 aE (fun g hg=>(aD.out.block_lt hg).1),bD.out.own aE (fun g hg=>by have:=(aD.out.block_lt hg).1;omega)⟩;have aR:Hid (OwnD (fun b=>w.heap.size<=b) w4 w.heap.size 49 5 v4 (A2 ([]++l))):=Lq7 (by rw[nodesD_append];exact aQ);go_wp2_with fail
      go_roundg g
      case measure=>omega
      case rel=>exact⟨[]++l,ts3,_,rfl,by omega,by simp only[lnA,lnN] at bF |-;omega,bC,bE,aR⟩
    | cons x0 acc0=>
     have bR:C8 en [44] ts1 dp ≠ .out:=fun h=>Hr.out (by rw[aY.out,if_neg (by simp),Da h]);have He:=Lq7 (Ez bp ⟨#[44]⟩ en ts1 dp w1 aF.out.2 bR);unfold ptr at He;go_wp2_with fail;refine He.out.mono ?_;rintro e w2 ⟨bW,hq⟩;have bM:=Lq7 (aIn (Ae aF.out.1 bW) bW);cases hm:C8 en [44] ts1 dp with
     | out=>exact absurd (by rw[aY.out,if_neg (by simp),Da hm]) Hr.out
     | err x l c=>
      rw[hm] at hq;obtain rfl:=hq;have Hf:Hid (Dc en tt.data.toList one ts dp = .err x l c):=Lq7 (by rw[aY.out,if_neg (by simp),Ga hm]);refine⟨rfl,?_⟩;rw[Hf.out];exact⟨bM.out.1,rfl⟩
     | ok u ts2 d2=>
      have hd2:d2=dp:=(by have:=Inc.eat _ _ _ _ _ _ hm;omega);subst hd2;rw[hm] at hq;obtain⟨bS,v,rfl,-⟩:=hq;have aW:=Lq7 (aIn bM.out.1 bS);have aU:Hid (OwnD (fun b=>w.heap.size<=b) w2 w.heap.size 49 5 (.slice a (x0::acc0).length cap) (A2 (x0::acc0))):=Lq7 (aB.out.keep (fun b hb hF=>bM.out.2.block b hb (by
       intro e;cases e;rcases hF with hF|hF
       ·omega
       ·have:=(aB.out.block_lt hF).1;omega)) bM.out.2.size)
      have aG:Hid (Dc en tt.data.toList one ts d2=PM.bind one (fun l=>Ej en tt.data.toList one g ((x0::acc0)++l)) ts2 d2):=Lq7 (by rw[aY.out,if_neg (by simp),G5 hm]);have bN:one ts2 d2 ≠ .out:=fun h=>Hr.out (by rw[aG.out,Da h]);have Ho:=Lq7 (bH.out w2 ts2 aW.out.1 aW.out.2 bN);have hws:w.heap.size<=w2.heap.size:=aW.out.1.size;go_wp2_with fail;refine Ho.out.mono ?_;rintro e w3 ⟨bL,hq⟩;have aM:=Lq7 (aIn (Ae aW.out.1 bL) bL);cases hm:one ts2 d2 with
      | out=>exact absurd (by rw[aG.out,Da hm]) Hr.out
      | err x l c=>
       rw[hm] at hq;obtain rfl:=hq;have Hf:Hid (Dc en tt.data.toList one ts d2 = .err x l c):=Lq7 (by rw[aG.out,Ga hm]);refine⟨rfl,?_⟩;rw[Hf.out];exact⟨aM.out.1,rfl⟩
      | ok l ts3 d3=>
       have bO:d3=d2:=(by have:=hinc _ _ _ _ _ hm;omega);subst bO;obtain⟨bP,hl2⟩:=bI.out _ _ _ _ _ hm;rw[hm] at hq;obtain⟨bA,v,rfl,a2,bB,rfl,aH⟩:=hq;have bQ:∃b2 aC,a2=some ⟨b2,aC,none⟩:=by
        cases l with
        | nil=>exact absurd rfl bP
        | cons n t=>
         obtain⟨b2,aC,cs,ha,-⟩:=aH 0 (nodeD n) (by rw[Cj];rfl);exact⟨b2,aC,ha⟩
       obtain⟨b2,aC,rfl⟩:=bQ;have bC:Hid (Dc en tt.data.toList one ts d3=Ej en tt.data.toList one g ((x0::acc0)++l) ts3 d3):=Lq7 (by rw[aG.out,G5 hm]);have aD:Hid (OwnD (fun b=>w.heap.size<=b) w3 w.heap.size 49 5 (.slice a (x0::acc0).length cap) (A2 (x0::acc0))):=Lq7 (aU.out.keep (fun b hb hF=>aM.out.2.block b hb (by
        intro e;cases e;rcases hF with hF|hF
        ·omega
        ·have:=(aU.out.block_lt hF).1;omega)) aM.out.2.size)
       have aN:Hid (Af (fun b=>w.heap.size<=b/\(Value.slice a (x0::acc0).length cap).ownBlock≠some b) w3 (some ⟨b2,aC,none⟩) (A2 l)):=Lq7 (aH.wider (fun b hb _=>⟨by omega,fun e=>by have:=(aU.out.block_lt e).2;omega⟩));have bD:=Lq7 bA
       go_wp2_with (at_builtin;refine Bx rfl _ _ 36 rfl w.heap.size 49 i0 _ 5 64 Tryz.underlying36 hi bT bU bV rfl (by decide) (.slice a (x0::acc0).length cap) (fun b=>w.heap.size<=b) (A2 (x0::acc0)) rfl aD.out b2 aC bB (A2 l) ?_ aN.out (Cc Dy l) (Cc D3 l) ?_ ?_ ?_ ?_)
       ·rw[Ao];rfl
       ·rw[Ao,Ao];unfold maxLen;simp only[lnC] at bF |-;omega
       ·rw[Ao,Ao];simp only[lnC] at bF |-;omega
       ·exact aM.out.1.size
       intro v4 w4 aQ aE _;have bE:Hid (w.grownBy w4 (some bp)/\PS w4 bp en ts3 d3):=Lq7 ⟨Gc aM.out.1 aE (fun g hg=>(aD.out.block_lt hg).1),bD.out.own aE (fun g hg=>by have:=(aD.out.block_lt hg).1;omega)⟩;have aR:Hid (OwnD (fun b=>w.heap.size<=b) w4 w.heap.size 49 5 v4 (A2 ((x0::acc0)++l))):=Lq7 (by rw[nodesD_append];exact aQ);go_wp2_with fail
       go_roundg g
       case measure=>omega
       case rel=>exact⟨(x0::acc0)++l,ts3,_,rfl,by omega,by simp only[lnA,lnC] at bF |-;omega,bC,bE,aR⟩
   ·rw[hb] at Hs;have aY:Hid (Dc en tt.data.toList one ts dp = .ok acc ts1 dp):=Lq7 (by rw[aJ.out,Ej,Ce,hb];rfl);go_wp2_with fail;refine Hs.out.mono ?_;rintro e w1 ⟨rfl,aZ⟩;have aF:Hid (w.grownBy w1 (some bp)/\PS w1 bp en ts1 dp):=Lq7 ⟨Ae bJ.out.1 (Bg aZ),bJ.out.2.grown aZ⟩;have aB:=Lq7 (hown.out.below aZ);go_wp2_with fail;go_ret;rw[aY.out];exact⟨aF.out.1,aF.out.2,_,rfl,aB.out,by omega⟩
theorem N3(bp tt f fa lb one en ts dp w)(hd0:0<=dp)(hd1:dp<=1000)(hp:PS w bp en ts dp)(henter:∀(args:Array Value) (w:World),(callFunc f args).run Tryz.prog w = .ok (.enter f args) w)(hone:∀(w1:World) (ts1:List Tok),w.grownBy w1 (some bp)->PS w1 bp en ts1 dp->one ts1 dp ≠ .out->Calls Tryz.prog f (fa++lb) w1 (PP bp en (Mt w1.heap.size) (one ts1 dp) w1))(hinc:Inc 0 one)(hlen:∀ts d l ts' d',one ts d = .ok l ts' d'->l≠[]/\l.length<=2)(hr:Dc en tt.data.toList one ts dp ≠ .out):
  Calls Tryz.prog 158 #[ptr bp,.string tt,.func (.func f) fa lb] w (PP bp en (Mt w.heap.size) (Dc en tt.data.toList one ts dp) w):=
 (R0 bp tt f fa lb one en ts dp w hd0 hd1 hp henter hone hinc hlen hr).mono fun _ _ h=>PP.weaker h fun _ _ hv=>hv.row
def zeroNode:Array Value:=#[.int .i64 0,.string ⟨#[]⟩,.int .i64 0,.int .i64 0,.slice none 0 0]
def Locs(w:World)(ls:List (Nat×Array Value×TypeId)):Prop:=∀x∈ls,w.heap[x.1]? = some (.cells x.2.1 x.2.2 (0,0))
structure PI(w:World)(bp:Nat)(en:Int×Int)(ts:List Tok)(dp:Int)(ls:List (Nat×Array Value×TypeId))(rows:List (Option Addr×List Nd))(W:World):Prop where
 grown:w.grownBy W (some bp)
 ps:PS W bp en ts dp
 locs:Locs W ls
 own:∀x∈ls,w.heap.size<=x.1
 bpl:bp<w.heap.size
 rows:∀r∈rows,Af (fun b=>w.heap.size<=b/\∀x∈ls,b≠x.1) W r.1 (A2 r.2)
 dist:(ls.map (·.1)).Nodup
section
variable {w W W':World} {bp:Nat} {en:Int×Int} {ts ts':List Tok} {dp dp':Int} {ls:List (Nat×Array Value×TypeId)} {rows:List (Option Addr×List Nd)}
theorem PI.start(h:PS w bp en ts dp):PI w bp en ts dp [] [] w:=⟨C5 _ _,h,(by intro x hx;cases hx),(by intro x hx;cases hx),h.lt,(by intro x hx;cases hx),.nil⟩
theorem Locs.lt(h:Locs W ls){x:Nat×Array Value×TypeId}(hx:x∈ls):x.1<W.heap.size:=(agS.1 (h x hx)).1
theorem PI.below(h:PI w bp en ts dp ls rows W)(hb:Below W.heap.size W W'):PI w bp en ts dp ls rows W':=
 ⟨Ae h.grown (Bg hb),h.ps.grown hb,fun x hx=>(hb.block _ (h.locs.lt hx)).trans (h.locs x hx),h.own,h.bpl,fun r hr=>(h.rows r hr).below hb,h.dist⟩
theorem PI.alloc(h:PI w bp en ts dp ls rows W)(cs:Array Value)(T:TypeId):PI w bp en ts dp ((W.heap.size,cs,T)::ls) rows (W.alloc (.cells cs T)):=by
 obtain⟨h1,h2,h3,h4,h5,h6,h8⟩:=h.below ((bRf _ W).alloc (nlr _) (.cells cs T));refine⟨h1,h2,fun x hx=>?_,fun x hx=>?_,h5,fun r hr=>?_,List.nodup_cons.2 ⟨fun hx=>?_,h8⟩⟩
 ·rcases List.mem_cons.1 hx with rfl|hx
  ·exact heap_alloc_new W _
  ·exact h3 x hx
 ·rcases List.mem_cons.1 hx with rfl|hx
  ·exact h.grown.size
  ·exact h4 x hx
 ·have h7:=(h.rows r hr).here;refine(h7.below ((bRf _ W).alloc (nlr _) (.cells cs T))).wider (fun b hb _=>⟨hb.1.1,fun x hx=>?_⟩);rcases List.mem_cons.1 hx with rfl|hx
  ·exact Nat.ne_of_lt hb.2
  ·exact hb.1.2 x hx
 ·obtain⟨x,hx,e⟩:=List.mem_map.1 hx;have h9:=h.locs.lt hx;have h10:x.1=W.heap.size:=e;omega
theorem PI.call(h:PI w bp en ts dp ls rows W)(hg:W.grownBy W' (some bp))(hp:PS W' bp en ts' dp'):PI w bp en ts' dp' ls rows W':=
 ⟨Ae h.grown hg,hp,fun x hx=>(hg.block _ (h.locs.lt hx) (fun e=>by cases e;have:=h.own x hx;have:=h.bpl;omega)).trans (h.locs x hx),h.own,h.bpl,
  fun r hr=>(h.rows r hr).mono fun b hb hl=>⟨hb,nll hl hg.size,hg.block b hl (fun e=>by cases e;have:=h.bpl;omega)⟩,h.dist⟩
theorem PI.row{B:Nat}{a:Option Addr}{l:List Nd}(h:PI w bp en ts dp ls rows W)(hrow:Af (fun b=>B<=b) W a (A2 l))(hw:w.heap.size<=B)(hB:∀x∈ls,x.1<B):PI w bp en ts dp ls ((a,l)::rows) W:=
 ⟨h.grown,h.ps,h.locs,h.own,h.bpl,fun r hr=>by
  rcases List.mem_cons.1 hr with rfl|hr
  ·exact hrow.wider (fun b hb _=>⟨by omega,fun x hx e=>by have:=hB x hx;omega⟩)
  ·exact h.rows r hr,h.dist⟩
theorem PI.at(h:PI w bp en ts dp ls rows W){b:Nat}{cs:Array Value}{T:TypeId}(hx:(b,cs,T)∈ls):W.heap[b]? = some (.cells cs T (0,0)):=h.locs _ hx
theorem PI.lt(h:PI w bp en ts dp ls rows W):∀x∈ls,x.1<W.heap.size:=fun _ hx=>h.locs.lt hx
theorem PI.drew(h:PI w bp en ts dp ls rows W):PI w bp en ts dp ls rows W.drew:=h.below ((bRf _ W).drew)
theorem PI.set(h:PI w bp en ts dp ls rows W)(j:Nat){b:Nat}{cs:Array Value}{T:TypeId}(hj:ls[j]? = some (b,cs,T))(i:Nat)(v:Value):PI w bp en ts dp (ls.set j (b,cs.setIfInBounds i v,T)) rows (W.setCell ⟨b,i,none⟩ v):=by
 have hm:(b,cs,T)∈ls:=lgM hj;have hb:w.heap.size<=b:=h.own _ hm;have hbp:=h.bpl;have hX:∀k,k≠b->(W.setCell ⟨b,i,none⟩ v).heap[k]? = W.heap[k]?:=fun k hk=>Ad hk i v;have aB:∀x∈ls.set j (b,cs.setIfInBounds i v,T),x=(b,cs.setIfInBounds i v,T)\/(x∈ls/\x.1≠b):=fun x hx=>by
  obtain⟨k,hk⟩:=List.mem_iff_getElem?.1 hx;rw[List.getElem?_set] at hk;split at hk
  ·split at hk
   ·exact .inl (Option.some.inj hk).symm
   ·cases hk
  ·rename_i hne
   refine .inr ⟨lgM hk,fun e=>hne ?_⟩;have aC:=(lgS.1 hj).1;have hkl:=(lgS.1 hk).1;refine(List.getElem_inj (h₀:=by simpa using aC) (h₁:=by simpa using hkl) h.dist).1 ?_;have h1:=(lgS.1 hj).2;have h2:=(lgS.1 hk).2;simp only[List.getElem_map,h1,h2,e]
 have aD:(ls.set j (b,cs.setIfInBounds i v,T)).map (·.1)=ls.map (·.1):=by
  rw[List.map_set];refine List.ext_getElem? fun k=>?_;rw[List.getElem?_set];split
  ·rename_i e
   subst e;rw[lgP,hj];simp[(lgS.1 hj).1]
  ·rfl
 refine⟨Dr h.grown hb i v,h.ps.kept (hX _ (by omega)) (fun k hk _=>hX k (by omega)) (by simp),fun x hx=>?_,fun x hx=>?_,hbp,fun r hr=>?_,by rw[aD];exact h.dist⟩
 ·rcases aB x hx with rfl|⟨hx,hne⟩
  ·exact Ag (h.locs _ hm) i v
  ·rw[hX _ hne];exact h.locs x hx
 ·rcases aB x hx with rfl|⟨hx,hne⟩
  ·exact hb
  ·exact h.own x hx
 ·refine(h.rows r hr).mono fun k hk hl=>⟨⟨hk.1,fun x hx=>?_⟩,by simpa using hl,hX k (hk.2 _ hm)⟩;rcases aB x hx with rfl|⟨hx,hne⟩
  ·exact hk.2 (b,cs,T) hm
  ·exact hk.2 x hx
theorem PI.put5(h:PI w bp en ts dp ls rows W)(j:Nat){b:Nat}{x0 x1 x2 x3 x4:Value}{T:TypeId}(hj:ls[j]? = some (b,#[x0,x1,x2,x3,x4],T))(v0 v1 v2 v3 v4:Value):
  PI w bp en ts dp (ls.set j (b,#[v0,v1,v2,v3,v4],T)) rows (((((W.setCell ⟨b,0,none⟩ v0).setCell ⟨b,1,none⟩ v1).setCell ⟨b,2,none⟩ v2).setCell ⟨b,3,none⟩ v3).setCell ⟨b,4,none⟩ v4):=by
 have aC:=(lgS.1 hj).1;have h1:=h.set j hj 0 v0;have h2:=h1.set j (b:=b) (cs:=#[v0,x1,x2,x3,x4]) (T:=T) (by rw[List.getElem?_set_self aC];rfl) 1 v1;rw[List.set_set] at h2;have h3:=h2.set j (b:=b) (cs:=#[v0,v1,x2,x3,x4]) (T:=T) (by rw[List.getElem?_set_self aC];rfl) 2 v2;rw[List.set_set] at h3;have h4:=h3.set j (b:=b) (cs:=#[v0,v1,v2,x3,x4]) (T:=T) (by rw[List.getElem?_set_self aC];rfl) 3 v3;rw[List.set_set] at h4;have h5:=h4.set j (b:=b) (cs:=#[v0,v1,v2,v3,x4]) (T:=T) (by rw[List.getElem?_set_self aC];rfl) 4 v4;rw[List.set_set] at h5;exact h5
theorem PI.less{l2:List (Nat×Array Value×TypeId)}{r2:List (Option Addr×List Nd)}(h:PI w bp en ts dp ls rows W)(h1:l2.Sublist ls)(h2:∀r∈r2,r∈rows):PI w bp en ts dp l2 r2 W:=
 ⟨h.grown,h.ps,fun x hx=>h.locs x (h1.subset hx),fun x hx=>h.own x (h1.subset hx),h.bpl,fun r hr=>(h.rows r (h2 r hr)).wider (fun _ hb _=>⟨hb.1,fun x hx=>hb.2 x (h1.subset hx)⟩),(h1.map _).nodup h.dist⟩
theorem PI.hand(h:PI w bp en ts dp ls rows W){a:Option Addr}{l:List Nd}(hr:(a,l)∈rows):Af (fun b=>w.heap.size<=b) W a (A2 l):=(h.rows (a,l) hr).wider (fun _ hb _=>hb.1)
end
theorem G6{F:Nat->Prop}{w:World}(k:Int)(t:ByteArray)(l c:Int){kids:List Nd}{a:Option Addr}(cap:Nat)(h:Af F w a (A2 kids))(hk:k=6->kids.length<=cap:=by first|exact trivial|(refine Hid.out ?_;assumption)|assumption|(intro _;exact Nat.zero_le _)|(intro h6;exact absurd h6 (by decide))):
  Am F w (nodeD (.mk k t l c kids)) [.int .i64 k,.string t,.int .i64 l,.int .i64 c,.slice a kids.length cap]:=by
 rw[nodeD];exact .cons (.one _) (.cons (.one _) (.cons (.one _) (.cons (.one _) (.cons (by rw[<-Ao kids];exact Dk.rowb_mk cap (fun h6=>by rw[Ao];exact hk (by simpa using h6)) h) .nil))))
theorem Af.lit{F}{w:World}{b size:Nat}{T cs}(css:List (List Value)){l:List (List Dat)}(hb:w.heap[b]? = some (.cells cs T (0,0)))(hcs:cs.toList=css.flatten)(hF:F b)(hsz:∀c∈css,c.length=size)(hlen:css.length=l.length)(hd:∀(j:Nat) ds c,l[j]? = some ds->css[j]? = some c->Am F w ds c):Af F w (some ⟨b,0,none⟩) l:=by
 intro j ds hj;have aC:=(lgS.1 hj).1;have aE:css[j]? = some (css[j]'(by omega)):=lgE _;have ha:=hd j ds _ hj aE;refine⟨b,0,_,rfl,hF,(agS.1 hb).1,ha,fun i u hu=>?_⟩;have h9:=Fl hsz aE hu;rw[<-hcs,Array.getElem?_toList] at h9;unfold World.cell?;rw[hb,Nat.zero_add,<-ha.1,hsz _ (lgM aE)];exact h9
def CapOk:List (List Value)->List Nd->Prop
 | [_,_,_,_,.slice _ _ cap]::css,.mk k _ _ _ kids::l=>(k=6->kids.length<=cap)/\CapOk css l
 | _,_=>True
theorem CapOk.get:∀{css:List (List Value)} {l:List Nd} {j:Nat} {k ln cl:Int} {t:ByteArray} {kids:List Nd} {c0 c1 c2 c3:Value} {a:Option Addr} {n cap:Nat},CapOk css l->l[j]? = some (.mk k t ln cl kids)->css[j]? = some [c0,c1,c2,c3,.slice a n cap]->(∀(i:Nat) (c:List Value) (x:Nd),css[i]? = some c->l[i]? = some x->∃d0 d1 d2 d3 b m e,c=[d0,d1,d2,d3,Value.slice b m e])->k=6->kids.length<=cap
 | [],_,_,_,_,_,_,_,_,_,_,_,_,_,_,_,_,hc,_=>by simp at hc
 | _::_,[],_,_,_,_,_,_,_,_,_,_,_,_,_,_,hl,_,_=>by simp at hl
 | c::css,x::l,j,_,_,_,_,_,_,_,_,_,_,_,_,h,hl,hc,hall=>by
  obtain⟨d0,d1,d2,d3,b,m,e,rfl⟩:=hall 0 c x rfl rfl;obtain⟨xk,xt,xl,xc,xs⟩:=x;rw[CapOk] at h;cases j with
  | zero=>
   simp at hl hc;obtain⟨rfl,rfl,rfl,rfl,rfl⟩:=hl;obtain⟨-,-,-,-,-,-,rfl⟩:=hc;exact h.1
  | succ j=>exact CapOk.get h.2 (by simpa using hl) (by simpa using hc) (fun i c x h1 h2=>hall (i+1) c x (by simpa using h1) (by simpa using h2))
theorem PI.lit{w W:World}{bp:Nat}{en:Int×Int}{ts:List Tok}{dp:Int}{ls:List (Nat×Array Value×TypeId)}{rows:List (Option Addr×List Nd)}(h:PI w bp en ts dp ls rows W)(T:TypeId){cs:Array Value}(css:List (List Value))(l:List Nd)(hcs:cs.toList=css.flatten)
  (hsz:∀c∈css,c.length=5) (hlen:css.length=l.length)
  (hd:∀(j:Nat) n c,l[j]? = some n->css[j]? = some c->∃k t ln cl kids a cap,n = .mk k t ln cl kids/\c=[.int .i64 k,.string t,.int .i64 ln,.int .i64 cl,.slice a kids.length cap]/\((a,kids)∈rows\/kids=[])) (hcp:CapOk css l:=by(repeat' (first|exact trivial|refine And.intro ?_ ?_))<;>first|(refine Hid.out ?_;assumption)|assumption|(intro _;exact Nat.zero_le _)|(intro h6;exact absurd h6 (by decide))):
  PI w bp en ts dp ls ((some ⟨W.heap.size,0,none⟩,l)::rows) (W.alloc (.cells cs T)):=by
 have hb:=h.below ((bRf _ W).alloc (nlr _) (.cells cs T));refine⟨hb.grown,hb.ps,hb.locs,hb.own,hb.bpl,fun r hr=>?_,hb.dist⟩;rcases List.mem_cons.1 hr with rfl|hr
 ·refine Af.lit (size:=5) css (heap_alloc_new W _) hcs ⟨h.grown.size,fun x hx=>Nat.ne_of_gt (h.locs.lt hx)⟩ hsz (by rw[Ao];exact hlen) (fun j ds c hj hc=>?_);simp only[Cj,lgP,Option.map_eq_some_iff] at hj;obtain⟨n,hn,rfl⟩:=hj;have hcap:=fun k t ln cl kids c0 c1 c2 c3 a n' cap (h1:n = .mk k t ln cl kids) (h2:c=[c0,c1,c2,c3,.slice a n' cap])=>CapOk.get hcp (hn.trans (congrArg some h1)) (hc.trans (congrArg some h2)) (fun i c' x' h3 h4=>by obtain⟨k,t,ln,cl,kids,a,cap,-,rfl,-⟩:=hd i x' c' h4 h3;exact⟨_,_,_,_,_,_,_,rfl⟩);obtain⟨k,t,ln,cl,kids,a,cap,rfl,rfl,hr|rfl⟩:=hd j n c hn hc
  ·exact G6 _ _ _ _ cap (hb.rows _ hr) (hcap _ _ _ _ _ _ _ _ _ _ _ _ rfl rfl)
  ·exact G6 _ _ _ _ cap (Af.nil _)
 ·exact hb.rows r hr
theorem Ay{α β:Type}{f:FuncId}{args:Array Value}{W:World}{Q:Ending->World->Prop}{bp:Nat}{en:Int×Int}{val:α->World->Value->Prop}{m:PM α}{k:α->PM β}{ts:List Tok}{dp:Int}{full:PR β}{d:Int}(nd:Int)
  (Hc:Hid (Calls Tryz.prog f args W (PP bp en val (m ts dp) W))) (Hr:Hid (full ≠ .out)) (Hsp:Hid (full=PM.bind m k ts dp)) (hi:Inc d m) (hd:nd=dp+d)
  (herr:∀{a l c w'},W.grownBy w' (some bp)->full = .err a l c->Q (.panicked [{ v:=L0 a l c,recovered:=false}]) w')
  (hok:∀x ts' w' v,m ts dp = .ok x ts' nd->W.grownBy w' (some bp)->PS w' bp en ts' nd->val x w' v->Hid (full=k x ts' nd)->Q (.returned v) w'):Calls Tryz.prog f args W Q:=by
 refine Hc.out.mono ?_;rintro e w' ⟨hg,hq⟩;cases hm:m ts dp with
 | out=>exact absurd (Hsp.out.trans (Da hm)) Hr.out
 | err a l c=>
  rw[hm] at hq;obtain rfl:e=_:=hq;exact herr hg (Hsp.out.trans (Ga hm))
 | ok x ts' dq=>
  obtain rfl:nd=dq:=(by have:=hi _ _ _ _ _ hm;omega);rw[hm] at hq;obtain⟨hps,v,rfl,hv⟩:=hq;exact hok x ts' w' v hm hg hps hv (Lq7 (Hsp.out.trans (G5 hm)))
theorem Bb{α β}{m:PM α}{k:α->PM β}{ts dp}{full:PR β}(Hr:Hid (full ≠ .out))(Hsp:Hid (full=PM.bind m k ts dp)):m ts dp ≠ .out:=fun h=>Hr.out (Hsp.out.trans (Da h))
theorem Bj{f:FuncId}{args}{W:World}{Q:Ending->World->Prop}{X}{R:World->Prop}(Hc:Hid (Calls Tryz.prog f args W (fun e w'=>e = .returned X/\Below W.heap.size W w')))(hb:∀{w'},Below W.heap.size W w'->R w')(h:∀w',Hid (R w')->Q (.returned X) w'):Calls Tryz.prog f args W Q:=by
 refine Hc.out.mono ?_;rintro e w' ⟨rfl,hw⟩;exact h w' (Lq7 (hb hw))
theorem Pp(bp tt en L)(hL:I5 L)(hx:Eg 64 bp en C7 L.stmt)(w ts dp)(hp:PS w bp en ts dp)(hd0:0<=dp)(hd1:dp<=1000)(hr:Du en L tt.data.toList ts dp ≠ .out):
  Calls Tryz.prog 38 #[ptr bp,.string tt] w (PP bp en (Mt w.heap.size) (Du en L tt.data.toList ts dp) w):=by
 obtain⟨i0,hi,bP,bQ,bR⟩:=info_parts infoNode;have hfew:=hp.few;have hbpl:=hp.lt;have Hp:=Lq7 hp;have Hx:=Lq7 hx;have Hr:=Lq7 hr;unfold ptr;go_enter Tryz.func38,Tryz.ntmps38;go_wp2_with fail
 go_loopg [5] (ts.length+1) (fun g v wr=>∃(acc:List Nd) (bJ:List Tok) (v':Value),v=v'/\g<=ts.length+1/\acc.length+g<=ts.length+1/\Hid (Du en L tt.data.toList ts dp=Dp en L tt.data.toList g acc bJ dp)/\Hid (w.grownBy wr (some bp)/\PS wr bp en bJ dp)/\Hid (OwnD (fun b=>w.heap.size<=b) wr w.heap.size 49 5 v' (A2 acc)))
 case atStart=>exact⟨[],ts,_,rfl,nlr _,by simp,Lq7 rfl,Lq7 ⟨C5 _ _,Hp.out⟩,Lq7 (OwnD.nil _ _ _ _ _)⟩
 case round=>
  obtain⟨acc,bJ,v,hv,hg1,bG,aF,aY,hown⟩:=hrel;have hv:=hv.symm;subst hv;cases gk with
  | zero=>exact absurd aF.out Hr.out
  | succ g=>
   obtain⟨ab,capb,bA,hb2,hb3,hb4⟩:=aY.out.2;obtain⟨q0,q1,q2,q3,q4⟩:=Al bA;cases bJ with
   | nil=>
    have aM:Hid (Du en L tt.data.toList ts dp = .ok acc [] dp):=Lq7 (by rw[aF.out];rfl);go_wp2_with fail;go_ret;rw[aM.out];obtain⟨a,cap,aN,aH⟩:=hown.out.rowAt (fun g hg=>(hown.out.block_lt hg).1);rw[Ao] at aN;exact⟨aY.out.1,aY.out.2,_,rfl,a,cap,aN,aH⟩
   | cons t0 r0=>
    have bS:=Lq7 (Lq8 tt);cases htt:tt.toList.isEmpty
    ·have bL:tt.data.toList.isEmpty=false:=(by rw[<-bS.out];exact htt);cases hb:Bf en (t0::r0) 0 tt.data.toList
     ·have aM:Hid (Du en L tt.data.toList ts dp=PM.bind L.stmt (fun x=>Dp en L tt.data.toList g (acc++[x])) (t0::r0) dp):=Lq7 (by rw[aF.out,Dp,Ce];simp only[hb,bL];rfl);have Hs:=Lq7 (Cx bp 0 tt en (t0::r0) dp wr (by omega) aY.out.2);unfold ptr at Hs;rw[hb] at Hs;go_wp2_with fail;refine Hs.out.mono ?_;rintro e w1 ⟨rfl,bA⟩;have aZ:Hid (w.grownBy w1 (some bp)/\PS w1 bp en (t0::r0) dp):=Lq7 ⟨Ae aY.out.1 (Bg bA),aY.out.2.grown bA⟩;have aB:=Lq7 (hown.out.below bA);have bM:L.stmt (t0::r0) dp ≠ .out:=fun h=>Hr.out (by rw[aM.out,Da h]);have Ho:=Lq7 (Hx.out _ _ _ aZ.out.2 hd0 hd1 bM);unfold ptr at Ho;have hws:w.heap.size<=w1.heap.size:=aZ.out.1.size;go_wp2_with fail;refine Ho.out.mono ?_;rintro e w3 ⟨bH,hq⟩;have aQ:=Lq7 (aIn (Ae aZ.out.1 bH) bH);cases hm:L.stmt (t0::r0) dp with
      | out=>exact absurd (by rw[aM.out,Da hm]) Hr.out
      | err x l c=>
       rw[hm] at hq;obtain rfl:=hq;have Hf:Hid (Du en L tt.data.toList ts dp = .err x l c):=Lq7 (by rw[aM.out,Ga hm]);refine⟨rfl,?_⟩;rw[Hf.out];exact⟨aQ.out.1,rfl⟩
      | ok x ts3 d3=>
       have bN:d3=dp:=(by have:=hL.stmt _ _ _ _ _ hm;omega);subst bN;rw[hm] at hq;have bB:Hid (Du en L tt.data.toList ts d3=Dp en L tt.data.toList g (acc++[x]) ts3 d3):=Lq7 (by rw[aM.out,G5 hm]);obtain⟨xk,xt,xl,xc,xs⟩:=x;obtain⟨bC,v1,rfl,bI⟩:=hq;obtain⟨a1,aC,rfl,aH⟩:=A3.open bI;have bD:=Lq7 (A3.cap bI);obtain⟨a,cap,aN,-⟩:=aB.out.rowAt (fun g hg=>(aB.out.block_lt hg).1);rw[Ao] at aN;subst aN;have aG:Hid (OwnD (fun b=>w.heap.size<=b) w3 w.heap.size 49 5 (.slice a acc.length cap) (A2 acc)):=Lq7 (aB.out.keep (fun b hb hF=>aQ.out.2.block b hb (by
        intro e;cases e;rcases hF with hF|hF
        ·omega
        ·have:=(aB.out.block_lt hF).1;omega)) aQ.out.2.size)
       have h5:=heap_alloc_new w3 (.cells #[.int .i64 xk,.string xt,.int .i64 xl,.int .i64 xc,.slice a1 xs.length aC] 49);have bE:Below w3.heap.size w3 (w3.alloc (.cells #[.int .i64 xk,.string xt,.int .i64 xl,.int .i64 xc,.slice a1 xs.length aC] 49)):=(bRf _ w3).alloc (nlr _) _;have aR:Hid (Af (fun b=>w.heap.size<=b/\(Value.slice a acc.length cap).ownBlock≠some b) (w3.alloc (.cells #[.int .i64 xk,.string xt,.int .i64 xl,.int .i64 xc,.slice a1 xs.length aC] 49)) (some ⟨w3.heap.size,0,none⟩) (A2 [.mk xk xt xl xc xs])):=Lq7 (by
        refine Af.lit (size:=5) [[.int .i64 xk,.string xt,.int .i64 xl,.int .i64 xc,.slice a1 xs.length aC]] h5 rfl ⟨aQ.out.1.size,fun e=>by have:=(aG.out.block_lt e).2;omega⟩ (by simp) (by simp[A2]) (fun j ds c hj hc=>?_);have bO:=(lgS.1 hc).1;simp only[lnC,lnN] at bO;obtain rfl:j=0:=(by omega);simp[A2] at hj hc;subst hj hc;exact G6 _ _ _ _ aC ((aH.below bE).wider (fun b hb _=>⟨by omega,fun e=>by have:=(aB.out.block_lt e).2;omega⟩)))
       have aD:=Lq7 (aG.out.below ((bRf _ w3).alloc (nlr _) (.cells #[.int .i64 xk,.string xt,.int .i64 xl,.int .i64 xc,.slice a1 xs.length aC] 49)));have aJ:=Lq7 (aIn (Ae aQ.out.1 (Bg bE)) (bC.grown bE))
       go_wp2_with (at_builtin;refine Bx rfl _ _ 36 rfl w.heap.size 49 i0 _ 5 64 Tryz.underlying36 hi bP bQ bR rfl (by decide) (.slice a acc.length cap) (fun b=>w.heap.size<=b) (A2 acc) rfl aD.out w3.heap.size 0 1 (A2 [.mk xk xt xl xc xs]) ?_ aR.out (Cc Dy _) (Cc D3 _) ?_ ?_ ?_ ?_)
       ·rw[Ao];rfl
       ·rw[Ao,Ao];unfold maxLen;simp only[lnC,lnN] at bG |-;omega
       ·rw[Ao,Ao];simp only[lnC,lnN] at bG |-;omega
       ·exact aJ.out.1.size
       intro v4 w4 aU aE _;have bF:Hid (w.grownBy w4 (some bp)/\PS w4 bp en ts3 d3):=Lq7 ⟨Gc aJ.out.1 aE (fun g hg=>(aD.out.block_lt hg).1),aJ.out.2.own aE (fun g hg=>by have:=(aD.out.block_lt hg).1;omega)⟩;have aW:Hid (OwnD (fun b=>w.heap.size<=b) w4 w.heap.size 49 5 v4 (A2 (acc++[.mk xk xt xl xc xs]))):=Lq7 (by rw[nodesD_append];exact aU);go_wp2_with fail
       go_roundg g
       case measure=>omega
       case rel=>exact⟨acc++[.mk xk xt xl xc xs],ts3,_,rfl,by omega,by simp only[lnA,lnC,lnN] at bG |-;omega,bB,bF,aW⟩
     ·have aM:Hid (Du en L tt.data.toList ts dp = .ok acc (t0::r0) dp):=Lq7 (by rw[aF.out,Dp,Ce];simp only[hb,bL];rfl);have Hs:=Lq7 (Cx bp 0 tt en (t0::r0) dp wr (by omega) aY.out.2);unfold ptr at Hs;rw[hb] at Hs;go_wp2_with fail;refine Hs.out.mono ?_;rintro e w1 ⟨rfl,bA⟩;have aZ:Hid (w.grownBy w1 (some bp)/\PS w1 bp en (t0::r0) dp):=Lq7 ⟨Ae aY.out.1 (Bg bA),aY.out.2.grown bA⟩;have aB:=Lq7 (hown.out.below bA);go_wp2_with fail;go_ret;rw[aM.out];obtain⟨a,cap,aN,aH⟩:=aB.out.rowAt (fun g hg=>(aB.out.block_lt hg).1);rw[Ao] at aN;exact⟨aZ.out.1,aZ.out.2,_,rfl,a,cap,aN,aH⟩
    ·have bL:tt.data.toList.isEmpty=true:=(by rw[<-bS.out];exact htt);have aM:Hid (Du en L tt.data.toList ts dp=PM.bind L.stmt (fun x=>Dp en L tt.data.toList g (acc++[x])) (t0::r0) dp):=Lq7 (by rw[aF.out,Dp,Ce];simp only[bL,Bool.true_or];rfl);have aZ:=aY;have aB:=hown;have bM:L.stmt (t0::r0) dp ≠ .out:=fun h=>Hr.out (by rw[aM.out,Da h]);have Ho:=Lq7 (Hx.out _ _ _ aZ.out.2 hd0 hd1 bM);unfold ptr at Ho;have hws:w.heap.size<=wr.heap.size:=aZ.out.1.size;go_wp2_with fail;refine Ho.out.mono ?_;rintro e w3 ⟨bH,hq⟩;have aQ:=Lq7 (aIn (Ae aZ.out.1 bH) bH);cases hm:L.stmt (t0::r0) dp with
     | out=>exact absurd (by rw[aM.out,Da hm]) Hr.out
     | err x l c=>
      rw[hm] at hq;obtain rfl:=hq;have Hf:Hid (Du en L tt.data.toList ts dp = .err x l c):=Lq7 (by rw[aM.out,Ga hm]);refine⟨rfl,?_⟩;rw[Hf.out];exact⟨aQ.out.1,rfl⟩
     | ok x ts3 d3=>
      have bN:d3=dp:=(by have:=hL.stmt _ _ _ _ _ hm;omega);subst bN;rw[hm] at hq;have bB:Hid (Du en L tt.data.toList ts d3=Dp en L tt.data.toList g (acc++[x]) ts3 d3):=Lq7 (by rw[aM.out,G5 hm]);obtain⟨xk,xt,xl,xc,xs⟩:=x;obtain⟨bC,v1,rfl,bI⟩:=hq;obtain⟨a1,aC,rfl,aH⟩:=A3.open bI;have bD:=Lq7 (A3.cap bI);obtain⟨a,cap,aN,-⟩:=aB.out.rowAt (fun g hg=>(aB.out.block_lt hg).1);rw[Ao] at aN;subst aN;have aG:Hid (OwnD (fun b=>w.heap.size<=b) w3 w.heap.size 49 5 (.slice a acc.length cap) (A2 acc)):=Lq7 (aB.out.keep (fun b hb hF=>aQ.out.2.block b hb (by
       intro e;cases e;rcases hF with hF|hF
       ·omega
       ·have:=(aB.out.block_lt hF).1;omega)) aQ.out.2.size)
      have h5:=heap_alloc_new w3 (.cells #[.int .i64 xk,.string xt,.int .i64 xl,.int .i64 xc,.slice a1 xs.length aC] 49);have bE:Below w3.heap.size w3 (w3.alloc (.cells #[.int .i64 xk,.string xt,.int .i64 xl,.int .i64 xc,.slice a1 xs.length aC] 49)):=(bRf _ w3).alloc (nlr _) _;have aR:Hid (Af (fun b=>w.heap.size<=b/\(Value.slice a acc.length cap).ownBlock≠some b) (w3.alloc (.cells #[.int .i64 xk,.string xt,.int .i64 xl,.int .i64 xc,.slice a1 xs.length aC] 49)) (some ⟨w3.heap.size,0,none⟩) (A2 [.mk xk xt xl xc xs])):=Lq7 (by
       refine Af.lit (size:=5) [[.int .i64 xk,.string xt,.int .i64 xl,.int .i64 xc,.slice a1 xs.length aC]] h5 rfl ⟨aQ.out.1.size,fun e=>by have:=(aG.out.block_lt e).2;omega⟩ (by simp) (by simp[A2]) (fun j ds c hj hc=>?_);have bO:=(lgS.1 hc).1;simp only[lnC,lnN] at bO;obtain rfl:j=0:=(by omega);simp[A2] at hj hc;subst hj hc;exact G6 _ _ _ _ aC ((aH.below bE).wider (fun b hb _=>⟨by omega,fun e=>by have:=(aB.out.block_lt e).2;omega⟩)))
      have aD:=Lq7 (aG.out.below ((bRf _ w3).alloc (nlr _) (.cells #[.int .i64 xk,.string xt,.int .i64 xl,.int .i64 xc,.slice a1 xs.length aC] 49)));have aJ:=Lq7 (aIn (Ae aQ.out.1 (Bg bE)) (bC.grown bE))
      go_wp2_with (at_builtin;refine Bx rfl _ _ 36 rfl w.heap.size 49 i0 _ 5 64 Tryz.underlying36 hi bP bQ bR rfl (by decide) (.slice a acc.length cap) (fun b=>w.heap.size<=b) (A2 acc) rfl aD.out w3.heap.size 0 1 (A2 [.mk xk xt xl xc xs]) ?_ aR.out (Cc Dy _) (Cc D3 _) ?_ ?_ ?_ ?_)
      ·rw[Ao];rfl
      ·rw[Ao,Ao];unfold maxLen;simp only[lnC,lnN] at bG |-;omega
      ·rw[Ao,Ao];simp only[lnC,lnN] at bG |-;omega
      ·exact aJ.out.1.size
      intro v4 w4 aU aE _;have bF:Hid (w.grownBy w4 (some bp)/\PS w4 bp en ts3 d3):=Lq7 ⟨Gc aJ.out.1 aE (fun g hg=>(aD.out.block_lt hg).1),aJ.out.2.own aE (fun g hg=>by have:=(aD.out.block_lt hg).1;omega)⟩;have aW:Hid (OwnD (fun b=>w.heap.size<=b) w4 w.heap.size 49 5 v4 (A2 (acc++[.mk xk xt xl xc xs]))):=Lq7 (by rw[nodesD_append];exact aU);go_wp2_with fail
      go_roundg g
      case measure=>omega
      case rel=>exact⟨acc++[.mk xk xt xl xc xs],ts3,_,rfl,by omega,by simp only[lnA,lnC,lnN] at bG |-;omega,bB,bF,aW⟩
theorem Po{α}(m:PM α)(ts d):m ts d=PM.bind m (fun x=>PM.pure x) ts d:=by
 unfold PM.bind;cases m ts d<;>rfl
theorem Jp{en is ts ts' d d' x}(h:Db en is ts d = .ok x ts' d'):d<60:=by
 unfold Db at h;split at h
 ·cases h
 ·rename_i hn
  cases is with
  | false=>cases h
  | true=>
   simp only[Bool.true_and,decide_eq_true_eq] at hn;omega
def Ih(m:PM Nd):PM (List Nd):=PM.bind m fun x=>PM.pure [x]
theorem N5{m:PM Nd}:∀ts d l ts' d',PM.bind m (fun x=>PM.pure [x]) ts d = .ok l ts' d'->l≠[]/\l.length<=2:=by
 intro ts d l ts' d' h;unfold PM.bind at h;cases hm:m ts d with
 | ok x t1 d1=>rw[hm] at h;cases h;simp
 | err a b c=>rw[hm] at h;cases h
 | out=>rw[hm] at h;cases h
theorem V0{en L}:∀ts d l ts' d',pEntry en L ts d = .ok l ts' d'->l≠[]/\l.length<=2:=by
 intro ts d l ts' d' h;unfold pEntry Ce at h;simp only[PM.bind] at h;split at h
 ·split at h
  ·split at h
   ·cases h;simp
   ·cases h
   ·cases h
  ·cases h
  ·cases h
 ·cases h
 ·cases h
theorem Inc.one{m}(h:Inc 0 m):Inc 0 (Ih m):=Inc.bind h (fun _=>Inc.pure _) rfl
section
variable {w W W':World} {bp:Nat} {en:Int×Int} {ts:List Tok} {dp:Int} {ls:List (Nat×Array Value×TypeId)} {rows:List (Option Addr×List Nd)}
theorem PI.later(h:PI w bp en ts dp ls rows W)(hg:W.grownBy W' (some bp)){b:Nat}{cs:Array Value}{T:TypeId}(hx:(b,cs,T)∈ls):W'.heap[b]? = some (.cells cs T (0,0)):=
 (hg.block _ (h.lt _ hx) (fun e=>by cases e;have:=h.own _ hx;have:=h.bpl;omega)).trans (h.at hx)
theorem PI.down(h:PI w bp en ts dp ls rows W):∃a cap,W.heap[bp]? = some (.cells #[.slice a ts.length cap,.int .i64 en.1,.int .i64 en.2,.int .i64 dp] 85 (0,0)) /\
  ∀d,PI w bp en ts d ls rows (W.setCell ⟨bp,3,none⟩ (.int .i64 d)):=by
 obtain⟨a,cap,h1,h2,h3,h4⟩:=h.ps;have hbp:=h.bpl;have hX:∀k,k≠bp->∀v,(W.setCell ⟨bp,3,none⟩ v).heap[k]? = W.heap[k]?:=fun k hk v=>Ad hk 3 v;refine⟨a,cap,h1,fun d=>⟨Ew h.grown 3 _,⟨a,cap,Ag h1 3 _,h2,h3,h4.grown (Ew (C5 _ _) 3 _)⟩,fun x hx=>?_,h.own,hbp,fun r hr=>?_,h.dist⟩⟩
 ·rw[hX _ (by have:=h.own x hx;omega)];exact h.locs x hx
 ·exact(h.rows r hr).mono fun k hk hl=>⟨hk,by simpa using hl,hX k (by have:=hk.1;omega) _⟩
theorem PI.put4(h:PI w bp en ts dp ls rows W)(j:Nat){b:Nat}{x0 x1 x2 x3:Value}{T:TypeId}(hj:ls[j]? = some (b,#[x0,x1,x2,x3],T))(v0 v1 v2 v3:Value):
  PI w bp en ts dp (ls.set j (b,#[v0,v1,v2,v3],T)) rows ((((W.setCell ⟨b,0,none⟩ v0).setCell ⟨b,1,none⟩ v1).setCell ⟨b,2,none⟩ v2).setCell ⟨b,3,none⟩ v3):=by
 have aB:=(lgS.1 hj).1;have h1:=h.set j hj 0 v0;have h2:=h1.set j (b:=b) (cs:=#[v0,x1,x2,x3]) (T:=T) (by rw[List.getElem?_set_self aB];rfl) 1 v1;rw[List.set_set] at h2;have h3:=h2.set j (b:=b) (cs:=#[v0,v1,x2,x3]) (T:=T) (by rw[List.getElem?_set_self aB];rfl) 2 v2;rw[List.set_set] at h3;have h4:=h3.set j (b:=b) (cs:=#[v0,v1,v2,x3]) (T:=T) (by rw[List.getElem?_set_self aB];rfl) 3 v3;rw[List.set_set] at h4;exact h4
end
theorem OwnD.widerB{F G w base base' e size v l}(h:OwnD F w base e size v l)(hF:∀b,F b->b<w.heap.size->G b)(hb:base'<=base):OwnD G w base' e size v l:=by
 obtain⟨css,hlen,hsz,⟨h1,h2⟩,hd⟩:=h;refine⟨css,hlen,hsz,⟨h1,?_⟩,fun j ds cs h5 h6=>(hd j ds cs h5 h6).wider fun b hb' hl=>⟨hF b hb'.1 hl,hb'.2⟩⟩;rcases h2 with h2|⟨g,cap,cur,h3,h4,h5⟩
 ·exact .inl h2
 ·exact .inr ⟨g,cap,cur,h3,by omega,h5⟩
def PF(w:World)(ls:List (Nat×Array Value×TypeId)):Nat->Prop:=fun b=>w.heap.size<=b/\∀x∈ls,b≠x.1
structure PO(w:World)(bp:Nat)(en:Int×Int)(ts:List Tok)(dp:Int)(ls:List (Nat×Array Value×TypeId))(rows:List (Option Addr×List Nd))(v:Value)(l:List Nd)(W:World):Prop where
 pi:PI w bp en ts dp ls [] W
 od:OwnD (fun b=>w.heap.size<=b/\∀x∈ls,b≠x.1) W w.heap.size 49 5 v (A2 l)
 ob:∀g,v.ownBlock=some g->∀x∈ls,g≠x.1
 rd:∀r∈rows,Af (fun b=>(w.heap.size<=b/\∀x∈ls,b≠x.1)/\v.ownBlock≠some b) W r.1 (A2 r.2)
section
variable {w W W':World} {bp:Nat} {en:Int×Int} {ts ts':List Tok} {dp dp':Int} {ls:List (Nat×Array Value×TypeId)} {rows:List (Option Addr×List Nd)} {v:Value} {l:List Nd}
theorem PO.grown(h:PO w bp en ts dp ls rows v l W):w.grownBy W (some bp):=h.pi.grown
theorem PO.ps(h:PO w bp en ts dp ls rows v l W):PS W bp en ts dp:=h.pi.ps
theorem PO.at(h:PO w bp en ts dp ls rows v l W){b:Nat}{cs:Array Value}{T:TypeId}(hx:(b,cs,T)∈ls):W.heap[b]? = some (.cells cs T (0,0)):=h.pi.at hx
theorem PO.lt(h:PO w bp en ts dp ls rows v l W):(∀x∈ls,x.1<W.heap.size)/\∀g,v.ownBlock=some g->g<W.heap.size:=⟨h.pi.lt,fun _ hg=>(h.od.block_lt hg).2⟩
theorem PO.below(h:PO w bp en ts dp ls rows v l W)(hb:Below W.heap.size W W'):PO w bp en ts dp ls rows v l W':=⟨h.pi.below hb,h.od.below hb,h.ob,fun r hr=>(h.rd r hr).below hb⟩
theorem PO.drew(h:PO w bp en ts dp ls rows v l W):PO w bp en ts dp ls rows v l W.drew:=h.below ((bRf _ W).drew)
theorem PO.call(h:PO w bp en ts dp ls rows v l W)(hg:W.grownBy W' (some bp))(hp:PS W' bp en ts' dp'):PO w bp en ts' dp' ls rows v l W':=by
 have aB:=h.pi.bpl;refine⟨h.pi.call hg hp,h.od.keep (fun b hl hF=>hg.block b hl (fun e=>?_)) hg.size,h.ob,fun r hr=>(h.rd r hr).mono fun b hb hl=>⟨hb,nll hl hg.size,hg.block b hl (fun e=>?_)⟩⟩
 ·cases e;rcases hF with hF|hF
  ·omega
  ·have:=(h.od.block_lt hF).1;omega
 ·cases e;have:=hb.1.1;omega
theorem PO.row{B:Nat}{a:Option Addr}{m:List Nd}(h:PO w bp en ts dp ls rows v l W)(hrow:Af (fun b=>B<=b) W a (A2 m))(hw:w.heap.size<=B)(hB:(∀x∈ls,x.1<B)/\∀g,v.ownBlock=some g->g<B):PO w bp en ts dp ls ((a,m)::rows) v l W:=
 ⟨h.pi,h.od,h.ob,fun r hr=>by
  rcases List.mem_cons.1 hr with rfl|hr
  ·exact hrow.wider (fun b hb _=>⟨⟨by omega,fun x hx e=>by have:=hB.1 x hx;omega⟩,fun e=>by have:=hB.2 b e;omega⟩)
  ·exact h.rd r hr⟩
theorem PO.lit(h:PO w bp en ts dp ls rows v l W)(T:TypeId){cs:Array Value}(css:List (List Value))(m:List Nd)(hcs:cs.toList=css.flatten)
  (hsz:∀c∈css,c.length=5) (hlen:css.length=m.length)
  (hd:∀(j:Nat) n c,m[j]? = some n->css[j]? = some c->∃k t ln cl kids a cap,n = .mk k t ln cl kids/\c=[.int .i64 k,.string t,.int .i64 ln,.int .i64 cl,.slice a kids.length cap]/\((a,kids)∈rows\/kids=[])) (hcp:CapOk css m:=by(repeat' (first|exact trivial|refine And.intro ?_ ?_))<;>first|(refine Hid.out ?_;assumption)|assumption|(intro _;exact Nat.zero_le _)|(intro h6;exact absurd h6 (by decide))):
  PO w bp en ts dp ls ((some ⟨W.heap.size,0,none⟩,m)::rows) v l (W.alloc (.cells cs T)):=by
 have hb:=h.below ((bRf _ W).alloc (nlr _) (.cells cs T));refine⟨hb.pi,hb.od,hb.ob,fun r hr=>?_⟩;rcases List.mem_cons.1 hr with rfl|hr
 ·refine Af.lit (size:=5) css (heap_alloc_new W _) hcs ⟨⟨h.grown.size,fun x hx=>Nat.ne_of_gt (h.pi.locs.lt hx)⟩,fun e=>by have:=(h.od.block_lt e).2;omega⟩ hsz (by rw[Ao];exact hlen) (fun j ds c hj hc=>?_);simp only[Cj,lgP,Option.map_eq_some_iff] at hj;obtain⟨n,hn,rfl⟩:=hj;have hcap:=fun k t ln cl kids c0 c1 c2 c3 a n' cap (h1:n = .mk k t ln cl kids) (h2:c=[c0,c1,c2,c3,.slice a n' cap])=>CapOk.get hcp (hn.trans (congrArg some h1)) (hc.trans (congrArg some h2)) (fun i c' x' h3 h4=>by obtain⟨k,t,ln,cl,kids,a,cap,-,rfl,-⟩:=hd i x' c' h4 h3;exact⟨_,_,_,_,_,_,_,rfl⟩);obtain⟨k,t,ln,cl,kids,a,cap,rfl,rfl,hr|rfl⟩:=hd j n c hn hc
  ·exact G6 _ _ _ _ cap (hb.rd _ hr) (hcap _ _ _ _ _ _ _ _ _ _ _ _ rfl rfl)
  ·exact G6 _ _ _ _ cap (Af.nil _)
 ·exact hb.rd r hr
theorem PO.ofLit(h:PI w bp en ts dp ls rows W){cs:Array Value}(css:List (List Value))(m:List Nd)(hcs:cs.toList=css.flatten)
  (hsz:∀c∈css,c.length=5) (hlen:css.length=m.length) (hcz:cs.size=m.length*5) (hmx:m.length<=1000)
  (hd:∀(j:Nat) n c,m[j]? = some n->css[j]? = some c->∃k t ln cl kids a cap,n = .mk k t ln cl kids/\c=[.int .i64 k,.string t,.int .i64 ln,.int .i64 cl,.slice a kids.length cap]/\((a,kids)∈rows\/kids=[])) (hcp:CapOk css m:=by(repeat' (first|exact trivial|refine And.intro ?_ ?_))<;>first|(refine Hid.out ?_;assumption)|assumption|(intro _;exact Nat.zero_le _)|(intro h6;exact absurd h6 (by decide))):
  PO w bp en ts dp ls [] (.slice (some ⟨W.heap.size,0,none⟩) m.length m.length) m (W.alloc (.cells cs 49)):=by
 have hb:=h.below ((bRf _ W).alloc (nlr _) (.cells cs 49));have hl:css.flatten.length=m.length*5:=(by rw[<-hcs,Array.length_toList,hcz]);refine⟨⟨hb.grown,hb.ps,hb.locs,hb.own,hb.bpl,(by intro r hr;cases hr),hb.dist⟩,⟨css,by rw[Ao];exact hlen,hsz,⟨by rw[Ao];exact hl,.inr ⟨W.heap.size,m.length,cs,by rw[Ao],h.grown.size,heap_alloc_new W _,by rw[Ao];exact nlr _,by unfold maxLen;omega,hcz,?_⟩⟩,fun j ds c hj hc=>?_⟩,fun g hg x hx=>?_,by intro r hr;cases hr⟩
 ·rw[Ao,hcs,<-hl,List.take_length]
 ·simp only[Cj,lgP,Option.map_eq_some_iff] at hj;obtain⟨n,hn,rfl⟩:=hj;have hcap:=fun k t ln cl kids c0 c1 c2 c3 a n' cap (h1:n = .mk k t ln cl kids) (h2:c=[c0,c1,c2,c3,.slice a n' cap])=>CapOk.get hcp (hn.trans (congrArg some h1)) (hc.trans (congrArg some h2)) (fun i c' x' h3 h4=>by obtain⟨k,t,ln,cl,kids,a,cap,-,rfl,-⟩:=hd i x' c' h4 h3;exact⟨_,_,_,_,_,_,_,rfl⟩);obtain⟨k,t,ln,cl,kids,a,cap,rfl,rfl,hr|rfl⟩:=hd j n c hn hc
  ·exact G6 _ _ _ _ cap (((h.rows _ hr).here.below ((bRf _ W).alloc (nlr _) (.cells cs 49))).wider (fun b hb _=>⟨hb.1,fun e=>by have h9:W.heap.size=b:=Option.some.inj e;have h10:b<W.heap.size:=hb.2;omega⟩)) (hcap _ _ _ _ _ _ _ _ _ _ _ _ rfl rfl)
  ·exact G6 _ _ _ _ cap (Af.nil _)
 ·cases hg;exact Nat.ne_of_gt (h.locs.lt hx)
theorem PO.ofOwn(h:PI w bp en ts dp ls rows W)(hg:W.grownBy W' (some bp))(hp:PS W' bp en ts' dp')(hv:VOwn W.heap.size l W' v):PO w bp en ts' dp' ls [] v l W':=by
 have hc:=h.call hg hp;refine⟨⟨hc.grown,hc.ps,hc.locs,hc.own,hc.bpl,(by intro r hr;cases hr),hc.dist⟩,hv.1.widerB (fun b hb _=>⟨Nat.le_trans h.grown.size hb,fun x hx=>Nat.ne_of_gt (nll (h.locs.lt hx) hb)⟩) h.grown.size,fun g hg x hx=>?_,by intro r hr;cases hr⟩;have:=(hv.1.block_lt hg).1;have:=h.locs.lt hx;omega
theorem PO.grew(h:PO w bp en ts dp ls rows v l W){v':Value}{m:List Nd}(hown:OwnD (PF w ls) W' w.heap.size 49 5 v' (A2 l++A2 m))(hg:W.grownBy W' v.ownBlock)
  (hor:∀g,v'.ownBlock=some g->v.ownBlock=some g\/W.heap.size<=g):PO w bp en ts dp ls [] v' (l++m) W':=by
 have aB:=h.pi.bpl;refine⟨⟨Gc h.grown hg (fun g hq=>(h.od.block_lt hq).1),h.ps.own hg (fun g hq=>by have:=(h.od.block_lt hq).1;omega),fun x hx=>?_,h.pi.own,aB,(by intro r hr;cases hr),h.pi.dist⟩,by rw[nodesD_append];exact hown,fun g hq x hx=>?_,by intro r hr;cases hr⟩
 ·exact(hg.block _ (h.pi.locs.lt hx) (fun e=>h.ob _ e.symm x hx rfl)).trans (h.pi.locs x hx)
 ·rcases hor g hq with hq|hq
  ·exact h.ob g hq x hx
  ·exact Nat.ne_of_gt (nll (h.pi.locs.lt hx) hq)
theorem PO.sliceC(h:PO w bp en ts dp ls rows v l W):∃a cap,v = .slice a l.length cap/\l.length<=cap:=by
 obtain⟨css,-,-,⟨-,⟨rfl,h2⟩|⟨g,cap,cur,rfl,-,-,h6,-⟩⟩,-⟩:=h.od
 ·rw[Ao] at h2;exact⟨none,0,by rw[h2],by omega⟩
 ·rw[Ao] at h6;exact⟨_,cap,by rw[Ao],h6⟩
theorem PO.slice(h:PO w bp en ts dp ls rows v l W):∃a cap,v = .slice a l.length cap:=by
 obtain⟨a,cap,h1,-⟩:=h.sliceC;exact⟨a,cap,h1⟩
theorem PO.toRow{a:Option Addr}{n cap:Nat}(h:PO w bp en ts dp ls rows (.slice a n cap) l W):PI w bp en ts dp ls [(a,l)] W:=by
 obtain⟨a',cap',hva,hrow⟩:=h.od.rowAt (fun g hg=>⟨(h.od.block_lt hg).1,h.ob g hg⟩);obtain rfl:a=a':=(by injection hva);refine⟨h.pi.grown,h.pi.ps,h.pi.locs,h.pi.own,h.pi.bpl,fun r hr=>?_,h.pi.dist⟩;obtain rfl:r=(a,l):=(by simpa using hr);exact hrow
end
theorem V1(bp en L)(hL:I5 L)(hx:Eg 64 bp en C7 L.stmt):Eg 111 bp en C7 (C3 en L):=by
 intro w ts dp hp hd0 hd1 hr;have Hr:=Lq7 hr;have Hx:=Lq7 hx;clear hx;have cG:C3 en L ts dp=PM.bind (Db en (Bf en ts 0 [123])) (fun t=>PM.bind (Du en L [125]) fun l=>PM.bind (C2 en [125]) fun _=>PM.pure (A1 8 t ⟨#[]⟩ l)) ts dp:=rfl;have aD:=Lq7 cG;have H0:=Lq7 ((PI.start hp).alloc #[.int .i64 0,.string ⟨#[]⟩,.int .i64 0,.int .i64 0,.slice none 0 0] 49);clear hp hr cG;unfold ptr;go_enter Tryz.func111,Tryz.ntmps111;go_wp2_with fail;have bV:=Lq7 (Cx bp 0 ⟨#[123]⟩ en ts (dp) (w.alloc (.cells #[.int .i64 0,.string ⟨#[]⟩,.int .i64 0,.int .i64 0,.slice none 0 0] 49)) (by omega) H0.out.ps);(try unfold ptr at bV);refine Bj bV (fun hb=>H0.out.below hb) ?_;intro w2 H3;clear bV H0;have bW:=Lq7 (Ie bp (Bf en ts 0 [123]) en ts (dp) w2 (by omega) (by omega) H3.out.ps (Bb Hr aD));(try unfold ptr at bW);go_wp2_with fail;refine Ay (dp+1) bW Hr aD (Inc.open _) (by omega) (fun hg hf=>⟨rfl,by rw[hf];exact⟨Ae H3.out.grown hg,rfl⟩⟩) ?_;rintro x9 ts8 w5 v hm hg aC rfl aH;have hlt:=Jp hm;have H6:=Lq7 (H3.out.call hg aC);(try unfold tokV);clear hm hg aC bW H3 aD;have aG:=Lq7 (H6.out.alloc #[.int .i64 x9.kind,.string x9.text,.int .i64 x9.line,.int .i64 x9.col] 87);clear H6;go_wp2_with fail;generalize w5.alloc _=W10 at aG |-;generalize w5.heap.size=b12 at aG |-;have aJ:=Lq7 (Pp bp ⟨#[125]⟩ en L hL Hx.out W10 ts8 (dp+1) aG.out.ps (by omega) (by omega) (Bb Hr aH));(try unfold ptr at aJ);refine Ay (dp+1) aJ Hr aH (Inc.stmts hL _) (by omega) (fun hg hf=>⟨rfl,by rw[hf];exact⟨Ae aG.out.grown hg,rfl⟩⟩) ?_;rintro bX bY w14 v hm hg aC ⟨bZ,aE,rfl,aB⟩ aF;have bU:=Lq7 ((aG.out.call hg aC).row aB aG.out.grown.size aG.out.lt);clear aB;clear hm hg aC aJ aG aH;have aM:=Lq7 (Id bp ⟨#[125]⟩ en bY (dp+1) w14 (by omega) (by omega) bU.out.ps (Bb Hr aF));(try unfold ptr at aM);go_wp2_with fail;refine Ay (dp) aM Hr aF (Inc.close _) (by omega) (fun hg hf=>⟨rfl,by rw[hf];exact⟨Ae bU.out.grown hg,rfl⟩⟩) ?_;rintro x26 ts25 w22 v hm hg aC-aN;have cB:=Lq7 (bU.out.call hg aC);clear hm hg aC aM bU aF;obtain⟨r27,r28,r29,r30,r31⟩:=Al (cB.out.at (b:=b12) (cs:=#[.int .i64 x9.kind,.string x9.text,.int .i64 x9.line,.int .i64 x9.col]) (T:=87) (by simp));go_wp2_with fail;clear r27 r28 r29 r30 r31;have cC:=Lq7 (Bq 8 x9 ⟨#[]⟩ bZ bX.length aE w22);unfold tokV C6 at cC;refine cC.out.mono ?_;rintro e w32 ⟨rfl,hb⟩;have cH:=Lq7 (cB.out.below hb);clear hb cC cB;obtain⟨r34,r35,r36,r37,r38,r39,r40,r41,r42,r43,r44⟩:=Aa (cH.out.at (b:=w.heap.size) (cs:=#[.int .i64 0,.string ⟨#[]⟩,.int .i64 0,.int .i64 0,.slice none 0 0]) (T:=49) (by simp));go_wp2_with fail;refine bodyPost_ret (v:=.agg #[.int .i64 8,.string ⟨#[]⟩,.int .i64 x9.line,.int .i64 x9.col,.slice bZ bX.length aE]) (by simp[results,Tryz.results111,go_sem,r35,r36,r37,r38,r39]) rfl ?_;have G:=Lq7 (cH.out.put5 1 rfl (.int .i64 8) (.string ⟨#[]⟩) (.int .i64 x9.line) (.int .i64 x9.col) (.slice bZ bX.length aE));rw[aN.out];exact⟨G.out.grown,G.out.ps,_,rfl,A3.mk _ _ _ _ _ (G.out.hand (by simp[]))⟩
theorem V3(bp bb en L)(hi:Inc 0 (pArg en L))(hx:Eg 162 bp en C7 (pArg en L))(w)(hb:w.heap[bb]? = some (.cells #[ptr bp] 82 (0,0)))(ts dp)(hp:PS w bp en ts dp)(hd0:0<=dp)(hd1:dp<=1000)(hr:Ih (pArg en L) ts dp ≠ .out):Calls Tryz.prog 161 #[.pointer (some ⟨bb,0,none⟩)] w (PP bp en (Mt w.heap.size) (Ih (pArg en L) ts dp) w):=by
 have Hr:=Lq7 hr;have Hx:=Lq7 hx;have aD:Hid (Ih (pArg en L) ts dp=PM.bind (pArg en L) (fun x=>PM.pure [x]) ts dp):=Lq7 rfl;have H0:=Lq7 (PI.start hp);unfold ptr at hb;obtain⟨cI,cJ⟩:=Aq hb;go_enter Tryz.func161,Tryz.ntmps161;go_wp2_with fail;have aQ:=Lq7 (Hx.out w ts (dp) H0.out.ps (by omega) (by omega) (Bb Hr aD));(try unfold ptr at aQ);refine Ay (dp) aQ Hr aD (hi) (by omega) (fun hg hf=>⟨rfl,by rw[hf];exact⟨Ae H0.out.grown hg,rfl⟩⟩) ?_;rintro x50 ts49 w46 v hm hg aC hv aR;obtain⟨aU,aW,aY,aZ,bA⟩:=x50;obtain⟨a51,bB,rfl,aB⟩:=A3.open hv;have Hccap52:=Lq7 (A3.cap hv);have H47:=Lq7 ((H0.out.call hg aC).row aB H0.out.grown.size H0.out.lt);go_wp2_with fail;have cD:=Lq7 (H47.out.lit 49 [[.int .i64 aU,.string aW,.int .i64 aY,.int .i64 aZ,.slice a51 bA.length bB]] [.mk aU aW aY aZ bA] rfl (by simp) rfl (fun j n c hj hc=>by
  have bC:=(lgS.1 hc).1;simp only[lnC,lnN] at bC;obtain rfl:j=0:=by omega
  ·simp at hj hc;subst hj hc;exact⟨_,_,_,_,_,_,_,rfl,rfl,.inl (by simp)⟩))
 go_ret;rw[aR.out];exact⟨cD.out.grown,cD.out.ps,_,rfl,_,_,rfl,cD.out.hand (by simp[])⟩
theorem V4(bp bb en L)(hL:I5 L)(hx:Eg 110 bp en C7 L.expr)(w)(hb:w.heap[bb]? = some (.cells #[ptr bp] 82 (0,0)))(ts dp)(hp:PS w bp en ts dp)(hd0:0<=dp)(hd1:dp<=1000)(hr:Ih (L.expr) ts dp ≠ .out):Calls Tryz.prog 232 #[.pointer (some ⟨bb,0,none⟩)] w (PP bp en (Mt w.heap.size) (Ih (L.expr) ts dp) w):=by
 have Hr:=Lq7 hr;have Hx:=Lq7 hx;have aD:Hid (Ih (L.expr) ts dp=PM.bind (L.expr) (fun x=>PM.pure [x]) ts dp):=Lq7 rfl;have H0:=Lq7 (PI.start hp);unfold ptr at hb;obtain⟨cI,cJ⟩:=Aq hb;go_enter Tryz.func232,Tryz.ntmps232;go_wp2_with fail;have bD:=Lq7 (Hx.out w ts (dp) H0.out.ps (by omega) (by omega) (Bb Hr aD));(try unfold ptr at bD);refine Ay (dp) bD Hr aD (hL.expr) (by omega) (fun hg hf=>⟨rfl,by rw[hf];exact⟨Ae H0.out.grown hg,rfl⟩⟩) ?_;rintro x59 ts58 w55 v hm hg aC hv bE;obtain⟨bF,bG,bH,bI,bJ⟩:=x59;obtain⟨a60,bL,rfl,aB⟩:=A3.open hv;have Hccap61:=Lq7 (A3.cap hv);have H56:=Lq7 ((H0.out.call hg aC).row aB H0.out.grown.size H0.out.lt);go_wp2_with fail;have cE:=Lq7 (H56.out.lit 49 [[.int .i64 bF,.string bG,.int .i64 bH,.int .i64 bI,.slice a60 bJ.length bL]] [.mk bF bG bH bI bJ] rfl (by simp) rfl (fun j n c hj hc=>by
  have bC:=(lgS.1 hc).1;simp only[lnC,lnN] at bC;obtain rfl:j=0:=by omega
  ·simp at hj hc;subst hj hc;exact⟨_,_,_,_,_,_,_,rfl,rfl,.inl (by simp)⟩))
 go_ret;rw[bE.out];exact⟨cE.out.grown,cE.out.ps,_,rfl,_,_,rfl,cE.out.hand (by simp[])⟩
theorem V9(bp bb en L)(hi:Inc 0 (De en L))(hx:Eg 160 bp en C7 (De en L))(w)(hb:w.heap[bb]? = some (.cells #[ptr bp] 82 (0,0)))(ts dp)(hp:PS w bp en ts dp)(hd0:0<=dp)(hd1:dp<=1000)(hr:Ih (De en L) ts dp ≠ .out):Calls Tryz.prog 159 #[.pointer (some ⟨bb,0,none⟩)] w (PP bp en (Mt w.heap.size) (Ih (De en L) ts dp) w):=by
 have Hr:=Lq7 hr;have Hx:=Lq7 hx;have aD:Hid (Ih (De en L) ts dp=PM.bind (De en L) (fun x=>PM.pure [x]) ts dp):=Lq7 rfl;have H0:=Lq7 (PI.start hp);unfold ptr at hb;obtain⟨cI,cJ⟩:=Aq hb;go_enter Tryz.func159,Tryz.ntmps159;go_wp2_with fail;have bM:=Lq7 (Hx.out w ts (dp) H0.out.ps (by omega) (by omega) (Bb Hr aD));(try unfold ptr at bM);refine Ay (dp) bM Hr aD (hi) (by omega) (fun hg hf=>⟨rfl,by rw[hf];exact⟨Ae H0.out.grown hg,rfl⟩⟩) ?_;rintro x68 ts67 w64 v hm hg aC hv bN;obtain⟨bO,bP,bQ,bR,bS⟩:=x68;obtain⟨a69,bT,rfl,aB⟩:=A3.open hv;have Hccap70:=Lq7 (A3.cap hv);have H65:=Lq7 ((H0.out.call hg aC).row aB H0.out.grown.size H0.out.lt);go_wp2_with fail;have cF:=Lq7 (H65.out.lit 49 [[.int .i64 bO,.string bP,.int .i64 bQ,.int .i64 bR,.slice a69 bS.length bT]] [.mk bO bP bQ bR bS] rfl (by simp) rfl (fun j n c hj hc=>by
  have bC:=(lgS.1 hc).1;simp only[lnC,lnN] at bC;obtain rfl:j=0:=by omega
  ·simp at hj hc;subst hj hc;exact⟨_,_,_,_,_,_,_,rfl,rfl,.inl (by simp)⟩))
 go_ret;rw[bN.out];exact⟨cF.out.grown,cF.out.ps,_,rfl,_,_,rfl,cF.out.hand (by simp[])⟩
theorem Un(n)(hn:inR n=true)(w)(hT:Et w):Calls Tryz.prog 57 #[.int .i64 n] w (Jl (Lib.itoa n) w):=by
 unfold inR at hn;simp only[Bool.and_eq_true,decide_eq_true_eq] at hn;have HF:=Lq7 (Tryz.strconv_FormatInt_10 n hn.1 hn.2 w hT);clear hT;go_enter Tryz.func57,Tryz.ntmps57;go_wp2_with fail;refine HF.out.mono ?_;rintro e w1 ⟨rfl,k,os,hw⟩;have Hb:Hid (Below w.heap.size w w1):=Lq7 (by
  rw[hw];exact(Cv (bRf _ w) k).trans (below_grown (w.drewN k) 0 os))
 clear hw;go_wp2_with fail;go_ret;exact⟨_,rfl,rfl,Hb.out⟩
end Go.Proofs.YtbcdimjbepigcaaGreatDoor
