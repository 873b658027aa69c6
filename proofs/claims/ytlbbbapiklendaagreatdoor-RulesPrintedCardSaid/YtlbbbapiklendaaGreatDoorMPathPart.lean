/-
  The walk of path.part:is a text a part of a path? (And what it stands on.)
-/
import Derived.Lib.BufferRead
import Derived.Test.YtlbbbapiklendaaGreatDoorMOwnLow
import Derived.Test.YtlbbbapiklendaaGreatDoorShelf
namespace Go.Proofs.YtlbbbapiklendaaGreatDoor
open Go.IntKind renaming i64->B
open Go.Value renaming int->A,string->C
open Option renaming none->D
open Go Go.RowKit
open List renaming getElem?_eq_getElem->lgE,length_append->lnA,getElem?_eq_some_iff->lgS,length_take->lnT
open Nat renaming le_refl->nlr
open Go.Lib renaming hid->Lq7
open Go.RowKit.Below renaming refl->bRf
set_option maxRecDepth 100000
set_option maxHeartbeats 16000000
def Jw(acc:Nat)(l:List UInt8):Nat:=l.foldl (fun n c=>10*n+(c.toNat - 48)) acc
theorem X0(l):∀acc,acc<=Jw acc l:=by
 induction l with
 | nil=>intro acc;exact nlr _
 | cons c t ih=>
  intro acc;have:=ih (10*acc+(c.toNat - 48));show acc<=Jw (10*acc+(c.toNat - 48)) t;omega
theorem Gy{c}(h:Ba c=true):48<=c.toNat/\c.toNat<=57:=by
 simp only[Ba,Bool.and_eq_true,decide_eq_true_eq] at h;omega
theorem Tk(l):∀acc,(∀c∈l,Ba c=true)->acc<=18446744073709551615 ->
  (Jw acc l<=18446744073709551615/\Lib.parseUintM 18446744073709551615 acc l = .ok (Jw acc l))\/(18446744073709551615<Jw acc l/\Lib.parseUintM 18446744073709551615 acc l = .range):=by
 induction l with
 | nil=>intro acc _ h;exact .inl ⟨h,rfl⟩
 | cons c t ih=>
  intro acc hd ha;obtain⟨h1,h2⟩:=Gy (hd c (List.mem_cons_self ..));have hge:=X0 t (10*acc+(c.toNat - 48));have hst:Jw acc (c::t)=Jw (10*acc+(c.toNat - 48)) t:=rfl;rw[Lib.parseUintM,if_pos ⟨h1,h2⟩,hst];by_cases h3:1844674407370955162<=acc
  ·rw[if_pos h3];exact .inr ⟨by omega,rfl⟩
  ·rw[if_neg h3];by_cases h4:18446744073709551615<acc*10+(c.toNat - 48)
   ·rw[if_pos h4];exact .inr ⟨by omega,rfl⟩
   ·rw[if_neg h4,show acc*10+(c.toNat - 48)=10*acc+(c.toNat - 48) by omega];exact ih _ (fun c h=>hd c (List.mem_cons_of_mem _ h)) (by omega)
theorem parseUint_digits{l}(hne:l≠[])(hd:∀c∈l,Ba c=true):
  (natOf l<=18446744073709551615/\Lib.parseUintB 64 l = .ok (natOf l))\/(18446744073709551615<natOf l/\Lib.parseUintB 64 l = .range):=by
 unfold Lib.parseUintB;rw[if_neg hne,show 2 ^ 64 - 1=18446744073709551615 from rfl];exact Tk l 0 hd (by omega)
theorem Rb{p:UInt8->Bool}{l:List UInt8}:∀c∈l.takeWhile p,p c=true:=by
 induction l with
 | nil=>intro c h;cases h
 | cons x t ih=>
  intro c h;by_cases hx:p x=true
  ·rw[List.takeWhile_cons_of_pos hx] at h;rcases List.mem_cons.1 h with rfl|h
   ·exact hx
   ·exact ih c h
  ·rw[List.takeWhile_cons_of_neg hx] at h;cases h
def Lt(w:World):Prop:=∃ev,w.cell? ⟨2,0,D⟩=some ev/\(ev = .nilIface\/∃te pe,ev = .iface te pe)
theorem Lt.below{w w'}(h:Lt w)(hb:Below w.heap.size w w'):Lt w':=by
 obtain⟨ev,h1,h2⟩:=h;exact⟨ev,(hb.cell (p:=⟨2,0,D⟩) (Ax h1)).trans h1,h2⟩
def PNext(r:Except Int (Int×List UInt8×Nat))(w:World)(e:Ending)(w':World):Prop:=
 Below w.heap.size w w'/\match r with
  | .ok x=>∃s:ByteArray,s.data.toList=x.2.1/\e = .returned (.tuple #[.agg #[A B x.1,C s,A B 0,A B 0],A B x.2.2,A B 0])
  | .error n=>e = .returned (.tuple #[.agg #[A B 0,C ⟨#[]⟩,A B 0,A B 0],A B 0,A B n])
theorem Gl(w e s):Below w.heap.size w (Lib.bytesWorld w e s):=by
 unfold Lib.bytesWorld World.freeze;rw[if_neg (by omega)];have h:=((bRf w.heap.size w).drew).alloc (nlr _) (.cells (Lib.bytesCells w e s) e);refine⟨h.os,h.tape,h.output,by simp,fun k hk=>?_⟩;show(Array.modify _ _ _)[k]? = _;rw[Array.getElem?_modify,if_neg (by show ¬w.heap.size=k;omega)];exact h.block k hk
theorem Fu{w w2}(h:Below w.heap.size w w2)(a b c d):Below w.heap.size w ((((w2.setCell ⟨w.heap.size,0,D⟩ a).setCell ⟨w.heap.size,1,D⟩ b).setCell ⟨w.heap.size,2,D⟩ c).setCell ⟨w.heap.size,3,D⟩ d):=
 (((h.setCell (p:=⟨w.heap.size,0,D⟩) (nlr _) _).setCell (p:=⟨w.heap.size,1,D⟩) (nlr _) _).setCell (p:=⟨w.heap.size,2,D⟩) (nlr _) _).setCell (p:=⟨w.heap.size,3,D⟩) (nlr _) _
theorem X1(s w)(hs:s.size<=65536)(hd:∃c,s.data.toList.head? = some c/\Ba c=true)(hw:Lt w):
  Calls Tryz.prog 58 #[C s] w (PNext (C8 s.data.toList) w):=by
 obtain⟨n,hn⟩:∃n,n=runL Ba s.data.toList:=⟨_,rfl⟩;have hle:n<=s.size:=(by rw[hn,<-Al];exact runL_le _ _);obtain⟨c,hc,aM⟩:=hd;have h0:0<s.size:=by
  rw[<-Al];cases hl:s.data.toList with
  | nil=>rw[hl] at hc;cases hc
  | cons=>simp
 have aN:s[0]'h0=c:=by
  have:=Ki s 0 h0;rw[<-List.head?_eq_getElem?,hc] at this;exact(Option.some.inj this).symm
 go_enter Tryz.func58,Tryz.ntmps58;go_wp2_with fail;refine(Pa Ba 57 N0 (fun _ _=>by kernel_rfl) s _ (by omega)).mono ?_;rintro e w' ⟨rfl,rfl⟩;rw[<-hn];have aR:(s.extract 0 n).data.toList=s.data.toList.takeWhile Ba:=by
  rw[Lib.extract_data,List.drop_zero,Nat.sub_zero,hn,Ry]
 have hn0:1<=n:=by
  rw[hn,runL];cases hl:s.data.toList with
  | nil=>rw[hl] at hc;cases hc
  | cons x t=>rw[hl] at hc;cases hc;rw[List.takeWhile_cons_of_pos aM];simp
 have hne:s.data.toList.takeWhile Ba≠[]:=by
  intro h;have:runL Ba s.data.toList=0:=(by unfold runL;rw[h];rfl);omega
 have aU:=parseUint_digits hne (fun c hc=>Rb c hc);have aD:Hid (C8 s.data.toList=if 1<n/\c=48 then .error 3 else if 9223372036854775807<natOf (s.data.toList.takeWhile Ba) then .error 2 else .ok (2,s.data.toList.takeWhile Ba,n)):=Lq7 (by unfold C8;rw[hc,<-hn];simp);have aQ:=Lq7 aR;have Hdg:=Lq7 aU;clear aR aU hne hn hc;subst aN;by_cases hz:1<n/\s[0]=48
 ·have h1:decide ((1:Int)<(n:Int))=true:=(by simp;omega);have h2:(((s[0]'h0).toNat:Int)==48)=true:=(by rw[hz.2];rfl);have Hr:Hid (C8 s.data.toList = .error 3):=Lq7 (by rw[aD.out,if_pos hz]);clear hz aD aM;go_wp2_with fail;refine bodyPost_ret (v:=.tuple #[.agg #[A B 0,C ⟨#[]⟩,A B 0,A B 0],A B 0,A B 3]) (by simp[results,Tryz.results58,go_sem]) rfl ?_;rw[Hr.out];exact⟨(bRf _ _).alloc (nlr _) _,rfl⟩
 ·have h2:decide ((1:Int)<(n:Int))=false\/(decide ((1:Int)<(n:Int))=true/\(((s[0]'h0).toNat:Int)==48)=false):=by
   by_cases h:1<n
   ·refine .inr ⟨by simp;omega,?_⟩;rw[beq_eq_false_iff_ne];intro he;exact hz ⟨h,UInt8.toNat_inj.1 (by show _=48;omega)⟩
   ·exact .inl (by simp;omega)
  have Hr:Hid (C8 s.data.toList=if 9223372036854775807<natOf (s.data.toList.takeWhile Ba) then .error 2 else .ok (2,s.data.toList.takeWhile Ba,n)):=Lq7 (by rw[aD.out,if_neg hz]);clear hz aD aM;have hsz:(s.extract 0 n).size<=65536:=(by rw[ByteArray.size_extract];omega);rcases h2 with h1|⟨h1,h2⟩
  all_goals
   go_wp2_with fail;have aE:Below w.heap.size w (w.alloc (.cells #[A B 0,C ⟨#[]⟩,A B 0,A B 0] 67)):=(bRf _ _).alloc (nlr _) _;rcases Hdg.out with⟨hsm,hok⟩|⟨hbig,hrg⟩
   ·have Hok:=Lq7 hok;clear hok;refine(Tryz.strconv_ParseUint_10_at64_ok _ (by omega) (natOf (s.data.toList.takeWhile Ba)) (by rw[aQ.out];exact Hok.out) _).mono ?_;rintro e w2 ⟨rfl,aV⟩;have aF:Below (w.alloc (.cells #[A B 0,C ⟨#[]⟩,A B 0,A B 0] 67)).heap.size (w.alloc (.cells #[A B 0,C ⟨#[]⟩,A B 0,A B 0] 67)) w2:=by
     rcases aV with rfl|rfl
     ·exact bRf _ _
     ·exact Gl _ _ _
    clear aV;obtain⟨hlt,aA,aB⟩:=Ao (Fa aF);have q0:=aA 0;have q1:=aA 1;have q2:=aA 2;have q3:=aA 3;have z0:=aB 0;have z1:=aB 1;have z2:=aB 2;have z3:=aB 3;have aC:Below w.heap.size w w2:=aE.trans (aF.mono aE.size);have Hb:=Lq7 aC;simp at q0 q1 q2 q3;clear aA aB aF aE aC;by_cases hm:(9223372036854775807:Int)<(natOf (s.data.toList.takeWhile Ba):Int)
    ·have aG:Hid (C8 s.data.toList = .error 2):=Lq7 (by rw[Hr.out,if_pos (by omega)]);generalize natOf (s.data.toList.takeWhile Ba)=v at hm hsm |-;go_wp2_with fail;refine bodyPost_ret (v:=.tuple #[.agg #[A B 0,C ⟨#[]⟩,A B 0,A B 0],A B 0,A B 2]) (by simp[results,Tryz.results58,go_sem,q0,q1,q2,q3]) rfl ?_;rw[aG.out];exact⟨Fu Hb.out _ _ _ _,rfl⟩
    ·have aG:Hid (C8 s.data.toList = .ok (2,s.data.toList.takeWhile Ba,n)):=Lq7 (by rw[Hr.out,if_neg (by omega)]);generalize natOf (s.data.toList.takeWhile Ba)=v at hm hsm |-;go_wp2_with fail;refine bodyPost_ret (v:=.tuple #[.agg #[A B 2,C (s.extract 0 n),A B 0,A B 0],A B n,A B 0]) (by simp[results,Tryz.results58,go_sem,q0,q1,q2,q3]) rfl ?_;rw[aG.out];exact⟨Fu Hb.out _ _ _ _,_,aQ.out,rfl⟩
   ·have Hrg:=Lq7 hrg;clear hrg;obtain⟨ev,aH,aJ⟩:=hw.below aE;refine(Tryz.strconv_ParseUint_10_at64_range _ (by omega) (by rw[aQ.out];exact Hrg.out) ev _ aH aJ).mono ?_;rintro e w2 ⟨N,rfl,-,-,aF⟩;obtain⟨hlt,aA,aB⟩:=Ao (Fa aF);have q0:=aA 0;have q1:=aA 1;have q2:=aA 2;have q3:=aA 3;have z0:=aB 0;have z1:=aB 1;have z2:=aB 2;have z3:=aB 3;have aC:Below w.heap.size w w2:=aE.trans (aF.mono aE.size);have Hb:=Lq7 aC;simp at q0 q1 q2 q3;clear aA aB aF aE aC aH aJ;have aG:Hid (C8 s.data.toList = .error 2):=Lq7 (by rw[Hr.out,if_pos (by omega)]);clear hbig;go_wp2_with fail;refine bodyPost_ret (v:=.tuple #[.agg #[A B 0,C ⟨#[]⟩,A B 0,A B 0],A B 0,A B 2]) (by simp[results,Tryz.results58,go_sem,q0,q1,q2,q3]) rfl ?_;rw[aG.out];exact⟨Fu Hb.out _ _ _ _,rfl⟩
theorem infoU8l:(Tryz.prog.info? 5).map (fun i=>(i.zero,i.size,i.bytes))=some (some (.int .u8 0),1,1):=by kernel_rfl
def u8v(c:UInt8):Value:=.int .u8 c.toNat
def Mp(w:World)(base:Nat)(v:Value)(l:List UInt8):Prop:=w.ownsRow base 5 1 v l.length (l.map u8v)
theorem Mp.nil(w base):Mp w base (.slice D 0 0) []:=⟨rfl,.inl ⟨rfl,rfl⟩⟩
theorem Mp.convert{w base v l}(h:Mp w base v l):(convert 89 9 v).run Tryz.prog w = .ok (C ⟨l.toArray⟩) w:=by
 obtain⟨h1,⟨rfl,h2⟩|⟨g,cap,cur,rfl,h3,h4,h5,h6,h7,h8⟩⟩:=h
 ·obtain rfl:l=[]:=List.length_eq_zero_iff.1 h2;exact Lib.run_convert_nil_bytes w _ _ 5 0 Tryz.underlying89 Tryz.underlying5 Tryz.underlying9
 ·refine run_convert_bytes_back w _ _ 5 ⟨g,0,D⟩ cap l Tryz.underlying89 Tryz.underlying5 Tryz.underlying9 (fun j hj=>?_);have h9:(cur.toList.take (l.length*1))[j]? = some (u8v l[j]):=(by rw[h8,List.getElem?_map,lgE hj];rfl);rw[List.getElem?_take_of_lt (by omega),Array.getElem?_toList] at h9;have:((⟨g,0,D⟩:Addr).add j)=⟨g,j,D⟩:=by unfold Addr.add;split<;>simp_all
  rw[this];unfold World.cell?;rw[h4];exact h9
def PQuoted(r:Option (List UInt8×Nat))(w:World)(e:Ending)(w':World):Prop:=
 Below w.heap.size w w'/\match r with
  | some x=>∃b:ByteArray,b.data.toList=x.1/\e = .returned (.tuple #[C b,A B ((x.2:Int)+1)])
  | none=>e = .returned (.tuple #[C ⟨#[]⟩,A B 0])
def Gz(l:List UInt8)(k:Nat)(acc:List UInt8):Prop:=Bs l.tail=(Bs (l.drop k)).map fun r=>(acc++r.1,(k - 1)+r.2)
theorem C7(c t):Bs (c::t)=if c=34 then some ([],1) else if c<32\/c=127 then D else if c=92 then(match t with|[]=>D|d::t'=>(Fo d).bind fun e=>(Bs t').map fun r=>(e::r.1,r.2+2)) else(Bs t).map fun r=>(c::r.1,r.2+1):=by
 rw[Bs.eq_def];rfl
theorem Vc{l k acc c}(h:Gz l k acc)(hk:1<=k)(hc:l[k]? = some c):
  (c=34->Bs l.tail=some (acc,k))/\((c≠34/\(c<32\/c=127))->Bs l.tail=D) /\
  ((c≠34/\¬(c<32\/c=127)/\c≠92)->Gz l (k+1) (acc++[c])) /\
  (c=92->(l.length<=k+1->Bs l.tail=D)/\∀d,l[k+1]? = some d->(Fo d=D->Bs l.tail=D)/\∀u,Fo d=some u->Gz l (k+2) (acc++[u])):=by
 have bA:k<l.length:=(lgS.1 hc).1;have hd:l.drop k=c::l.drop (k+1):=by
  rw[List.drop_eq_getElem_cons bA];rw[lgE bA] at hc;rw[Option.some.inj hc]
 unfold Gz at h |-;rw[hd] at h;refine⟨fun hq=>?_,fun hq=>?_,fun hq=>?_,fun hq=>⟨fun hl=>?_,fun d hd'=>⟨fun hu=>?_,fun u hu=>?_⟩⟩⟩
 ·rw[h,C7,if_pos hq];simp;omega
 ·rw[h,C7,if_neg hq.1,if_pos hq.2];rfl
 ·rw[h,C7,if_neg hq.1,if_neg hq.2.1,if_neg hq.2.2];cases Bs (l.drop (k+1)) with
  | none=>rfl
  | some r=>simp;omega
 ·rw[h,C7,if_neg (by rw[hq];decide),if_neg (by rw[hq];decide),if_pos hq,List.drop_of_length_le hl];rfl
 ·have hkl':k+1<l.length:=(lgS.1 hd').1;have aR:l.drop (k+1)=d::l.drop (k+2):=by
   rw[List.drop_eq_getElem_cons hkl'];rw[lgE hkl'] at hd';rw[Option.some.inj hd']
  rw[h,C7,if_neg (by rw[hq];decide),if_neg (by rw[hq];decide),if_pos hq,aR];simp[hu]
 ·have hkl':k+1<l.length:=(lgS.1 hd').1;have aR:l.drop (k+1)=d::l.drop (k+2):=by
   rw[List.drop_eq_getElem_cons hkl'];rw[lgE hkl'] at hd';rw[Option.some.inj hd']
  rw[h,C7,if_neg (by rw[hq];decide),if_neg (by rw[hq];decide),if_pos hq,aR];simp only[hu,Option.bind_some];cases Bs (l.drop (k+2)) with
  | none=>rfl
  | some r=>simp;omega
theorem N1(w:World)(t x):∀(j:Nat) (v:Value),[x][j]? = some v->(w.alloc (.cells #[x] t)).cell? ((⟨w.heap.size,0,D⟩:Addr).add j)=some v:=by
 intro j v h;have hj:j=0:=by
  have:=(lgS.1 h).1
  simpa using this
 subst hj;simp at h;subst h;go_simp
theorem X2{l k acc}(h:Gz l k acc)(hk:l.length<=k):Bs l.tail=D:=by
 unfold Gz at h;rw[h,List.drop_of_length_le hk];rfl
theorem P9(n:Nat)(hn:n<256)(c:UInt8):((c.toNat:Int)==(n:Int))=decide (c=UInt8.ofNat n):=by
 rw[Z8 hn,Bool.eq_iff_iff,beq_iff_eq,decide_eq_true_eq]
theorem esc_index(d):(∃(n:Nat) (u:UInt8),n<3/\Lib.indexByte (⟨#[34,92,110]⟩:ByteArray).data.toList ((d.toNat:Int)).toNat.toUInt8=(n:Int)/\Fo d=some u/\(n=0/\u=34\/n=1/\u=92\/n=2/\u=10)) \/
  (Lib.indexByte (⟨#[34,92,110]⟩:ByteArray).data.toList ((d.toNat:Int)).toNat.toUInt8 = -1/\Fo d=D):=by
 have hd:((d.toNat:Int)).toNat.toUInt8=d:=(by simp);rw[hd];by_cases h1:d=34
 ·subst h1;exact .inl ⟨0,34,by omega,by decide,by decide,.inl ⟨rfl,rfl⟩⟩
 by_cases h2:d=92
 ·subst h2;exact .inl ⟨1,92,by omega,by decide,by decide,.inr (.inl ⟨rfl,rfl⟩)⟩
 by_cases h3:d=110
 ·subst h3;exact .inl ⟨2,10,by omega,by decide,by decide,.inr (.inr ⟨rfl,rfl⟩)⟩
 refine .inr ⟨?_,by simp[Fo,h1,h2,h3]⟩;have g1:(34==d)=false:=(by simp;exact fun h=>h1 h.symm);have g2:(92==d)=false:=(by simp;exact fun h=>h2 h.symm);have g3:(110==d)=false:=(by simp;exact fun h=>h3 h.symm);show Lib.indexByte [34,92,110] d = -1;simp[Lib.indexByte,g1,g2,g3]
theorem X3(s w)(hs:s.size<=65536)(h1:1<=s.size):
  Calls Tryz.prog 59 #[C s] w (PQuoted (Bs s.data.toList.tail) w):=by
 obtain⟨i0,hi,aH,aJ,aM⟩:=info_parts infoU8l;go_enter Tryz.func59,Tryz.ntmps59;go_wp2_with fail
 go_loopw [4,5] (fun v i wr=>∃(k:Nat) (acc:List UInt8) (v':Value),v=v'/\i = A B k/\1<=k/\k<=s.size/\acc.length<=k/\Hid (Mp wr w.heap.size v' acc)/\Below w.heap.size w wr/\Hid (Gz s.data.toList k acc)) (fun _ i _=>s.size-(intOf i).toNat)
 case atStart=>exact⟨1,[],_,rfl,rfl,nlr _,h1,by simp,Lq7 (Mp.nil _ _),bRf _ _,Lq7 (by unfold Gz;simp)⟩
 case round=>
  obtain⟨k,acc,v,hv,rfl,hk1,hk,hal,hown,hb,hq⟩:=hrel;have hv:=hv.symm;subst hv;by_cases hlt:k<s.size
  ·have aE:=Vc hq.out hk1 (Ki s k hlt);generalize hc:s[k]=c at aE;by_cases e34:c=34
   ·have Hr:=Lq7 (aE.1 e34);have aC:=Lq7 hown.out.convert;have t1:(((s[k]).toNat:Int)==34)=true:=(by rw[hc,e34];rfl);clear aE hc hq hown e34;have hcv:=aC.out;go_wp2_with fail
    go_ret2
    rw[Hr.out];exact⟨hb,_,by simp,rfl⟩
   have t1:(((s[k]).toNat:Int)==34)=false:=(by rw[hc];exact(P9 34 (by omega) c).trans (by simp[e34]));by_cases ectl:c<32\/c=127
   ·have Hr:=Lq7 (aE.2.1 ⟨e34,ectl⟩);have t2:decide ((((s[k]).toNat:Int))<32)=true\/(decide ((((s[k]).toNat:Int))<32)=false/\(((s[k]).toNat:Int)==127)=true):=by
     rw[hc];by_cases h:c<32
     ·left;rw[UInt8.lt_iff_toNat_lt] at h;exact decide_eq_true (by have:c.toNat<32:=h;omega)
     ·right
      rcases ectl with h'|h'
      ·exact absurd h' h
      ·rw[h'];exact⟨rfl,rfl⟩
    clear aE hc hq hown e34 ectl;rcases t2 with t2|⟨t2,t3⟩
    all_goals
     go_wp2_with fail
     go_ret2
     rw[Hr.out];exact⟨hb,rfl⟩
   have aU:32<=c.toNat:=by
    have h:¬c<32:=fun h=>ectl (.inl h);rw[UInt8.lt_iff_toNat_lt] at h;exact Nat.le_of_not_lt h
   have t2:decide ((((s[k]).toNat:Int))<32)=false:=(by rw[hc];simp;omega);have t3:(((s[k]).toNat:Int)==127)=false:=(by rw[hc];exact(P9 127 (by omega) c).trans (by simp;exact fun h=>ectl (.inr h)));by_cases e92:c=92
   ·obtain⟨aV,aW⟩:=aE.2.2.2 e92;have t4:(((s[k]).toNat:Int)==92)=true:=(by rw[hc,e92];rfl);by_cases hk2:k+1<s.size
    ·obtain⟨aN,aQ⟩:=aW _ (Ki s (k+1) hk2);have hk2':(k:Int)+1<s.size:=(by omega);generalize bB:s[k+1]=d at aN aQ;clear aE hc e34 ectl e92 aV aW aU;have aC:=Lq7 hown.out;have aY:=Lq7 bB;clear hown bB hq;go_wp2_with fail;refine(Tryz.strings_IndexByte _ _ _).mono ?_;rintro e w2 ⟨rfl,aZ⟩;have aZ:=aZ.symm;subst aZ;rw[aY.out];rcases esc_index d with⟨n,u,hn,hix,hun,hcase⟩|⟨hix,hun⟩
     ·rw[hix];have Hq:=Lq7 (aQ u hun);clear hix hun aN aQ aY;rcases hcase with⟨rfl,rfl⟩|⟨rfl,rfl⟩|⟨rfl,rfl⟩
      ·have aG:k+2<=s.size:=(by omega);clear hk2'
       go_wp2_with (at_builtin;refine wpList_append_own _ rfl _ _ 89 rfl w.heap.size 5 i0 (.int .u8 0) 1 1 Tryz.underlying89 hi aH aJ aM rfl (by decide) _ _ _ rfl (aC.out.alloc _) ⟨wr.heap.size,0,D⟩ 1 1 [.int .u8 34] rfl rfl ?_ ?_ ?_ ?_ ?_ ?_)
       ·exact N1 _ _ _
       ·simp[Value.oneCell']
       ·unfold maxLen;omega
       ·omega
       ·have:=hb.size;simp;omega
       intro v3 w3 aB aA _;have aD:Hid (Mp w3 w.heap.size v3 (acc++[34])):=Lq7 (by unfold Mp;rw[lnA,List.map_append];exact aB);have aF:Below w.heap.size w w3:=(hb.alloc hb.size _).grown aA (by have:=hb.size;simp;omega) (fun g hg=>(aC.out.lt g hg).1);clear aB aA;go_wp2_with fail;go_roundw
       case rel=>exact⟨k+2,acc++[34],_,rfl,by go_num,by omega,by omega,by simp;omega,aD,aF,Hq⟩
       case measure=>simp only[intOf];omega
      ·have aG:k+2<=s.size:=(by omega);clear hk2'
       go_wp2_with (at_builtin;refine wpList_append_own _ rfl _ _ 89 rfl w.heap.size 5 i0 (.int .u8 0) 1 1 Tryz.underlying89 hi aH aJ aM rfl (by decide) _ _ _ rfl (aC.out.alloc _) ⟨wr.heap.size,0,D⟩ 1 1 [.int .u8 92] rfl rfl ?_ ?_ ?_ ?_ ?_ ?_)
       ·exact N1 _ _ _
       ·simp[Value.oneCell']
       ·unfold maxLen;omega
       ·omega
       ·have:=hb.size;simp;omega
       intro v3 w3 aB aA _;have aD:Hid (Mp w3 w.heap.size v3 (acc++[92])):=Lq7 (by unfold Mp;rw[lnA,List.map_append];exact aB);have aF:Below w.heap.size w w3:=(hb.alloc hb.size _).grown aA (by have:=hb.size;simp;omega) (fun g hg=>(aC.out.lt g hg).1);clear aB aA;go_wp2_with fail;go_roundw
       case rel=>exact⟨k+2,acc++[92],_,rfl,by go_num,by omega,by omega,by simp;omega,aD,aF,Hq⟩
       case measure=>simp only[intOf];omega
      ·have aG:k+2<=s.size:=(by omega);clear hk2'
       go_wp2_with (at_builtin;refine wpList_append_own _ rfl _ _ 89 rfl w.heap.size 5 i0 (.int .u8 0) 1 1 Tryz.underlying89 hi aH aJ aM rfl (by decide) _ _ _ rfl (aC.out.alloc _) ⟨wr.heap.size,0,D⟩ 1 1 [.int .u8 10] rfl rfl ?_ ?_ ?_ ?_ ?_ ?_)
       ·exact N1 _ _ _
       ·simp[Value.oneCell']
       ·unfold maxLen;omega
       ·omega
       ·have:=hb.size;simp;omega
       intro v3 w3 aB aA _;have aD:Hid (Mp w3 w.heap.size v3 (acc++[10])):=Lq7 (by unfold Mp;rw[lnA,List.map_append];exact aB);have aF:Below w.heap.size w w3:=(hb.alloc hb.size _).grown aA (by have:=hb.size;simp;omega) (fun g hg=>(aC.out.lt g hg).1);clear aB aA;go_wp2_with fail;go_roundw
       case rel=>exact⟨k+2,acc++[10],_,rfl,by go_num,by omega,by omega,by simp;omega,aD,aF,Hq⟩
       case measure=>simp only[intOf];omega
     ·rw[hix];have Hr:=Lq7 (aN hun);clear hix hun aN aQ aY;go_wp2_with fail
      go_ret2
      rw[Hr.out];exact⟨hb,rfl⟩
    ·have Hr:=Lq7 (aV (by rw[Al];omega));have hk2':¬(k:Int)+1<s.size:=(by omega);clear aE hc hq hown e34 ectl e92 aV aW;go_wp2_with fail
     go_ret2
     rw[Hr.out];exact⟨hb,rfl⟩
   ·have Hq:=Lq7 (aE.2.2.1 ⟨e34,ectl,e92⟩);have t4:(((s[k]).toNat:Int)==92)=false:=(by rw[hc];exact(P9 92 (by omega) c).trans (by simp[e92]));have Hc:=Lq7 hc;clear aE hc hq e34 ectl e92;have aC:=Lq7 hown.out;clear hown
    go_wp2_with (at_builtin;refine wpList_append_own _ rfl _ _ 89 rfl w.heap.size 5 i0 (.int .u8 0) 1 1 Tryz.underlying89 hi aH aJ aM rfl (by decide) _ _ _ rfl (aC.out.alloc _) ⟨wr.heap.size,0,D⟩ 1 1 [.int .u8 (s[k]).toNat] rfl rfl ?c1 ?c2 ?c3 ?c4 ?c5 ?_)
    case c2=>simp[Value.oneCell']
    case c3=>unfold maxLen;omega
    case c4=>omega
    case c5=>have:=hb.size;simp;omega
    intro v3 w3 aB aA _;have aD:Hid (Mp w3 w.heap.size v3 (acc++[c])):=Lq7 (by unfold Mp;rw[lnA,List.map_append,<-Hc.out];exact aB);have aF:Below w.heap.size w w3:=(hb.alloc hb.size _).grown aA (by have:=hb.size;simp;omega) (fun g hg=>(aC.out.lt g hg).1);clear aB aA;go_wp2_with fail;go_roundw
    case rel=>exact⟨k+1,acc++[c],_,rfl,by go_num,by omega,by omega,by simp;omega,aD,aF,Hq⟩
    case measure=>simp only[intOf];omega
  ·have Hr:=Lq7 (X2 hq.out (by rw[Al];omega));clear hq hown;go_wp2_with fail
   go_ret2
   rw[Hr.out];exact⟨hb,rfl⟩
def signsL:List UInt8:=[61,43,40,41,91,93,123,125,44,58,59]
theorem sign_index(c):(∃o:Nat,Lib.indexByte signsL c=(o:Int)/\c∈signsL)\/(Lib.indexByte signsL c = -1/\c∉signsL):=by
 have h:=Lib.indexByte_ge signsL c;by_cases h1:Lib.indexByte signsL c = -1
 ·refine .inr ⟨h1,fun hm=>?_⟩;obtain⟨k,hk⟩:=List.getElem?_of_mem hm;exact Lib.indexByte_none h1 k hk
 ·obtain⟨o,ho⟩:=Int.eq_ofNat_of_zero_le (show 0<=Lib.indexByte signsL c by omega);exact .inl ⟨o,ho,List.mem_of_getElem? (Lib.indexByte_some ho).1⟩
theorem Oo(l a b):Lib.hasPrefix l [a,b]=decide (l.take 2=[a,b]):=by
 unfold Lib.hasPrefix;rw[Bool.eq_iff_iff,List.isPrefixOf_iff_prefix,decide_eq_true_eq]
 constructor
 ·rintro⟨t,rfl⟩;rfl
 ·intro h;exact⟨l.drop 2,by rw[<-h,List.take_append_drop]⟩
theorem next_any(s w)(hs:s.size<=65536)(h0:0<s.size)(hw:Lt w):
  Calls Tryz.prog 31 #[C s] w (PNext (Bu s.data.toList) w):=by
 have hl:s.data.toList=s[0]::s.data.toList.tail:=by
  have:=List.drop_eq_getElem_cons (l:=s.data.toList) (i:=0) (by rw[Al];exact h0);rw[List.drop_zero] at this;rw[this];rfl
 obtain⟨c,hc⟩:∃c,s[0]=c:=⟨_,rfl⟩;have Hc:=Lq7 hc;have Hn:Hid (Bu s.data.toList=if isGap c then .ok (0,[],runL isGap s.data.toList)
  else if c=35 then .ok (0,[],runL isLine s.data.toList)
  else if Di c then .ok (1,s.data.toList.takeWhile Cd,runL Cd s.data.toList)
  else if Ba c then C8 s.data.toList
  else if c=34 then(match Bs s.data.toList.tail with|some r=> .ok (3,r.1,r.2+1)|none=> .error 3)
  else if s.data.toList.take 2=[61,61]\/s.data.toList.take 2=[33,61] then .ok (4,s.data.toList.take 2,2)
  else if c∈signsL then .ok (4,[c],1) else .error 3):=Lq7 (by rw[hl,hc,Bu.eq_def];rfl)
 have aJ:Hid (s.data.toList.head? = some c):=Lq7 (by rw[hl,hc];rfl);have Hx0:Hid ((s.extract 0 1).data.toList=[c]):=Lq7 (by rw[Lib.extract_data,hl,hc];rfl);clear hc hl;have aA:∀p:UInt8->Bool,(runL p s.data.toList:Int)<=s.size:=fun p=>(by rw[<-Al];exact Int.ofNat_le.2 (runL_le p _));go_enter Tryz.func31,Tryz.ntmps31;go_wp2_with fail;refine(Zn s[0] _).mono ?_;rintro e w' ⟨rfl,rfl⟩;rw[Hc.out];cases hg:isGap c
 ·have Hg:=Lq7 hg;clear hg;by_cases h35:c=35
  ·have Hr:Hid (Bu s.data.toList = .ok (0,[],runL isLine s.data.toList)):=Lq7 (by rw[Hn.out,Hg.out,if_pos h35];rfl);have t1:((c.toNat:Int)==35)=true:=(by rw[h35];rfl);clear Hn h35;go_wp2_with fail;refine(Pa isLine 54 line_any (fun _ _=>by kernel_rfl) s _ (by omega)).mono ?_;rintro e w' ⟨rfl,rfl⟩;have aM:=aA isLine;clear aA;generalize runL isLine s.data.toList=n at Hr aM;go_wp2_with fail;refine bodyPost_ret (v:=.tuple #[.agg #[A B 0,C ⟨#[]⟩,A B 0,A B 0],A B n,A B 0]) (by simp[results,Tryz.results31,go_sem]) rfl ?_;rw[Hr.out];exact⟨(bRf _ _).alloc (nlr _) _,_,rfl,rfl⟩
  have t1:((c.toNat:Int)==35)=false:=(by exact(P9 35 (by omega) c).trans (by simp[h35]));have aR:=Lq7 h35;clear h35;go_wp2_with fail;refine(L8 c _).mono ?_;rintro e w' ⟨rfl,rfl⟩;cases hlt:Di c
  ·have Hl:=Lq7 hlt;clear hlt;go_wp2_with fail;refine(N0 c _).mono ?_;rintro e w' ⟨rfl,rfl⟩;cases hdg:Ba c
   ·have Hd:=Lq7 hdg;clear hdg;by_cases h34:c=34
    ·have t2:((c.toNat:Int)==34)=true:=(by rw[h34];rfl);have Hr:Hid (Bu s.data.toList=(match Bs s.data.toList.tail with|some r=> .ok (3,r.1,r.2+1)|none=> .error 3)):=Lq7 (by rw[Hn.out,Hg.out,if_neg (by simp),if_neg aR.out,Hl.out,if_neg (by simp),Hd.out,if_neg (by simp),if_pos h34]);clear Hn h34 aA;go_wp2_with fail;refine(X3 s _ hs h0).mono ?_;rintro e w2 ⟨aF,hq⟩;obtain⟨aV,aB,aC⟩:=Ao (Fa aF);have q0:=aB 0;have q1:=aB 1;have q2:=aB 2;have q3:=aB 3;have z0:=aC 0;have z1:=aC 1;have z2:=aC 2;have z3:=aC 3;have aE:Below w.heap.size w (w.alloc (.cells #[A B 0,C ⟨#[]⟩,A B 0,A B 0] 67)):=(bRf _ _).alloc (nlr _) _;have Hb:=Lq7 (aE.trans (aF.mono aE.size));simp at q0 q1 q2 q3;clear aB aC aF aE;cases hql:Bs s.data.toList.tail with
     | none=>
      have aG:Hid (Bu s.data.toList = .error 3):=Lq7 (by rw[Hr.out,hql]);rw[hql] at hq;obtain rfl:=hq;clear hql Hr;go_wp2_with fail;refine bodyPost_ret (v:=.tuple #[.agg #[A B 0,C ⟨#[]⟩,A B 0,A B 0],A B 0,A B 3]) (by simp[results,Tryz.results31,go_sem,q0,q1,q2,q3]) rfl ?_;rw[aG.out];exact⟨Fu Hb.out _ _ _ _,rfl⟩
     | some r=>
      have aG:Hid (Bu s.data.toList = .ok (3,r.1,r.2+1)):=Lq7 (by rw[Hr.out,hql]);rw[hql] at hq;obtain⟨b,aN,rfl⟩:=hq;have aW:=Lq7 aN;have hr2:(0:Int)<(r.2:Int)+1:=(by omega);clear hql Hr aN;go_wp2_with fail;refine bodyPost_ret (v:=.tuple #[.agg #[A B 3,C b,A B 0,A B 0],A B ((r.2:Int)+1),A B 0]) (by simp[results,Tryz.results31,go_sem,q0,q1,q2,q3]) rfl ?_;rw[aG.out];exact⟨Fu Hb.out _ _ _ _,b,aW.out,by simp⟩
    have t2:((c.toNat:Int)==34)=false:=(by exact(P9 34 (by omega) c).trans (by simp[h34]));have aH:Hid (Bu s.data.toList=if s.data.toList.take 2=[61,61]\/s.data.toList.take 2=[33,61] then .ok (4,s.data.toList.take 2,2) else if c∈signsL then .ok (4,[c],1) else .error 3):=Lq7 (by rw[Hn.out,Hg.out,if_neg (by simp),if_neg aR.out,Hl.out,if_neg (by simp),Hd.out,if_neg (by simp),if_neg h34]);clear Hn h34 aA;go_wp2_with fail;refine(Tryz.strings_HasPrefix s _ _).mono ?_;rintro e w2 ⟨rfl,aD⟩;have aD:=aD.symm;subst aD;rw[show(⟨#[61,61]⟩:ByteArray).data.toList=[61,61] from rfl,Oo];by_cases hp1:s.data.toList.take 2=[61,61]
    ·have Hr:Hid (Bu s.data.toList = .ok (4,s.data.toList.take 2,2)):=Lq7 (by rw[aH.out,if_pos (.inl hp1)]);have h2:(2:Int)<=s.size:=by
      have:=congrArg List.length hp1;rw[lnT,Al] at this;simp at this;omega
     have Hx:Hid ((s.extract 0 2).data.toList=s.data.toList.take 2):=Lq7 (by rw[Lib.extract_data];rfl);rw[decide_eq_true hp1];clear hp1 aH;go_wp2_with fail;refine bodyPost_ret (v:=.tuple #[.agg #[A B 4,C (s.extract 0 2),A B 0,A B 0],A B 2,A B 0]) (by simp[results,Tryz.results31,go_sem]) rfl ?_;rw[Hr.out];exact⟨(bRf _ _).alloc (nlr _) _,_,Hx.out,rfl⟩
    rw[decide_eq_false hp1];have Hp1:=Lq7 hp1;clear hp1;go_wp2_with fail;refine(Tryz.strings_HasPrefix s _ _).mono ?_;rintro e w2 ⟨rfl,aD⟩;have aD:=aD.symm;subst aD;rw[show(⟨#[33,61]⟩:ByteArray).data.toList=[33,61] from rfl,Oo];by_cases hp2:s.data.toList.take 2=[33,61]
    ·have Hr:Hid (Bu s.data.toList = .ok (4,s.data.toList.take 2,2)):=Lq7 (by rw[aH.out,if_pos (.inr hp2)]);have h2:(2:Int)<=s.size:=by
      have:=congrArg List.length hp2;rw[lnT,Al] at this;simp at this;omega
     have Hx:Hid ((s.extract 0 2).data.toList=s.data.toList.take 2):=Lq7 (by rw[Lib.extract_data];rfl);rw[decide_eq_true hp2];clear hp2 aH;go_wp2_with fail;refine bodyPost_ret (v:=.tuple #[.agg #[A B 4,C (s.extract 0 2),A B 0,A B 0],A B 2,A B 0]) (by simp[results,Tryz.results31,go_sem]) rfl ?_;rw[Hr.out];exact⟨(bRf _ _).alloc (nlr _) _,_,Hx.out,rfl⟩
    rw[decide_eq_false hp2];have aU:Hid (Bu s.data.toList=if c∈signsL then .ok (4,[c],1) else .error 3):=Lq7 (by rw[aH.out,if_neg (by rintro(h|h);exact Hp1.out h;exact hp2 h)]);clear hp2 aH;go_wp2_with fail;refine(Tryz.strings_IndexByte _ _ _).mono ?_;rintro e w2 ⟨rfl,aD⟩;have aD:=aD.symm;subst aD;rw[show(⟨#[61,43,40,41,91,93,123,125,44,58,59]⟩:ByteArray).data.toList=signsL from rfl,show((c.toNat:Int)).toNat.toUInt8=c from by simp];rcases sign_index c with⟨o,ho,hm⟩|⟨ho,hm⟩
    ·rw[ho];have Hr:Hid (Bu s.data.toList = .ok (4,[c],1)):=Lq7 (by rw[aU.out,if_pos hm]);have h1:(1:Int)<=s.size:=(by omega);have hoo:(0:Int)<=(o:Int):=(by omega);clear ho hm aU;go_wp2_with fail;refine bodyPost_ret (v:=.tuple #[.agg #[A B 4,C (s.extract 0 1),A B 0,A B 0],A B 1,A B 0]) (by simp[results,Tryz.results31,go_sem]) rfl ?_;rw[Hr.out];exact⟨(bRf _ _).alloc (nlr _) _,_,Hx0.out,rfl⟩
    ·rw[ho];have Hr:Hid (Bu s.data.toList = .error 3):=Lq7 (by rw[aU.out,if_neg hm]);clear ho hm aU;go_wp2_with fail;refine bodyPost_ret (v:=.tuple #[.agg #[A B 0,C ⟨#[]⟩,A B 0,A B 0],A B 0,A B 3]) (by simp[results,Tryz.results31,go_sem]) rfl ?_;rw[Hr.out];exact⟨(bRf _ _).alloc (nlr _) _,rfl⟩
   ·have Hr:Hid (Bu s.data.toList=C8 s.data.toList):=Lq7 (by rw[Hn.out,Hg.out,if_neg (by simp),if_neg aR.out,Hl.out,if_neg (by simp),hdg,if_pos rfl]);have aQ:∃c,s.data.toList.head? = some c/\Ba c=true:=⟨c,aJ.out,hdg⟩;have aY:=Lq7 aQ;clear hdg aQ Hn aA;have aE:Below w.heap.size w (w.alloc (.cells #[A B 0,C ⟨#[]⟩,A B 0,A B 0] 67)):=(bRf _ _).alloc (nlr _) _;go_wp2_with fail;refine(X1 s _ hs aY.out (hw.below aE)).mono ?_;rintro e w2 ⟨aF,hq⟩;obtain⟨aV,aB,aC⟩:=Ao (Fa aF);have q0:=aB 0;have q1:=aB 1;have q2:=aB 2;have q3:=aB 3;have z0:=aC 0;have z1:=aC 1;have z2:=aC 2;have z3:=aC 3;have Hb:=Lq7 (aE.trans (aF.mono aE.size));simp at q0 q1 q2 q3;clear aB aC aF aE;cases hql:C8 s.data.toList with
    | error n=>
     have aG:Hid (Bu s.data.toList = .error n):=Lq7 (by rw[Hr.out,hql]);rw[hql] at hq;obtain rfl:=hq;clear hql Hr;go_wp2_with fail;refine bodyPost_ret (v:=.tuple #[.agg #[A B 0,C ⟨#[]⟩,A B 0,A B 0],A B 0,A B n]) (by simp[results,Tryz.results31,go_sem,q0,q1,q2,q3]) rfl ?_;rw[aG.out];exact⟨Fu Hb.out _ _ _ _,rfl⟩
    | ok r=>
     have aG:Hid (Bu s.data.toList = .ok r):=Lq7 (by rw[Hr.out,hql]);rw[hql] at hq;obtain⟨b,aN,rfl⟩:=hq;have aW:=Lq7 aN;clear hql Hr aN;go_wp2_with fail;refine bodyPost_ret (v:=.tuple #[.agg #[A B r.1,C b,A B 0,A B 0],A B r.2.2,A B 0]) (by simp[results,Tryz.results31,go_sem,q0,q1,q2,q3]) rfl ?_;rw[aG.out];exact⟨Fu Hb.out _ _ _ _,b,aW.out,rfl⟩
  ·have Hr:Hid (Bu s.data.toList = .ok (1,s.data.toList.takeWhile Cd,runL Cd s.data.toList)):=Lq7 (by rw[Hn.out,Hg.out,if_neg (by simp),if_neg aR.out,hlt,if_pos rfl]);have Hx:Hid ((s.extract 0 (runL Cd s.data.toList)).data.toList=s.data.toList.takeWhile Cd):=Lq7 (by rw[Lib.extract_data,List.drop_zero,Nat.sub_zero,Ry]);clear hlt Hn;go_wp2_with fail;refine(Pa Cd 56 Aap (fun _ _=>by kernel_rfl) s _ (by omega)).mono ?_;rintro e w' ⟨rfl,rfl⟩;have aM:=aA Cd;clear aA;generalize runL Cd s.data.toList=n at Hr aM Hx;go_wp2_with fail;refine bodyPost_ret (v:=.tuple #[.agg #[A B 1,C (s.extract 0 n),A B 0,A B 0],A B n,A B 0]) (by simp[results,Tryz.results31,go_sem]) rfl ?_;rw[Hr.out];exact⟨(bRf _ _).alloc (nlr _) _,_,Hx.out,rfl⟩
 ·have Hr:Hid (Bu s.data.toList = .ok (0,[],runL isGap s.data.toList)):=Lq7 (by rw[Hn.out,hg];rfl);clear hg Hn;go_wp2_with fail;refine(Pa isGap 52 Zn (fun _ _=>by kernel_rfl) s _ (by omega)).mono ?_;rintro e w' ⟨rfl,rfl⟩;have aM:=aA isGap;clear aA;generalize runL isGap s.data.toList=n at Hr aM;go_wp2_with fail;refine bodyPost_ret (v:=.tuple #[.agg #[A B 0,C ⟨#[]⟩,A B 0,A B 0],A B n,A B 0]) (by simp[results,Tryz.results31,go_sem]) rfl ?_;rw[Hr.out];exact⟨(bRf _ _).alloc (nlr _) _,_,rfl,rfl⟩
end Go.Proofs.YtlbbbapiklendaaGreatDoor
namespace Go.Proofs.YtlbbbapiklendaaGreatDoor
open Go.IntKind renaming i64->B
open Go.Value renaming int->A,string->C
open Option renaming none->D
open Go.RowKit
open Go.Lib renaming hid->Lq7,toList_data->Lq8
open Bool renaming and_eq_true->bAt
set_option maxRecDepth 100000
set_option maxHeartbeats 16000000
def E5(c:Nat):Bool:=(97<=c&&c<=122)||(65<=c&&c<=90)||(48<=c&&c<=57)||c==95||c==46||c==45||c==43
def PSign(b:Bool)(w:World)(e:Ending)(w':World):Prop:=e = .returned (.bool b)/\w'=w
theorem Wc(c)(h:c<48\/(57<c/\c<65)\/(90<c/\c<97)\/(122<c/\c<128)):E5 c=decide (0<=Lib.indexByte [95,46,45,43] c.toUInt8):=by
 have hc:c<128:=(by omega);have key:∀c:Fin 128,(c.val<48\/(57<c.val/\c.val<65)\/(90<c.val/\c.val<97)\/(122<c.val/\c.val<128))->E5 c.val=decide (0<=Lib.indexByte [95,46,45,43] c.val.toUInt8):=(by decide +kernel);exact key ⟨c,hc⟩ h
theorem Abe(c:Nat)(w:World)(hc:c<=1114111):
  Calls Tryz.prog 301 #[.int .i32 c] w (PSign (E5 c) w):=by
 have aA:(97<=c/\c<=122)\/(65<=c/\c<=90)\/(48<=c/\c<=57)\/128<=c\/c<48\/(57<c/\c<65)\/(90<c/\c<97)\/(122<c/\c<128):=(by omega);rcases aA with⟨h1,h2⟩|⟨h1,h2⟩|⟨h1,h2⟩|h1|h1|⟨h1,h2⟩|⟨h1,h2⟩|⟨h1,h2⟩
 ·have H:Hid (E5 c=true):=Lq7 (by simp[E5];omega);go_enter Tryz.func301,Tryz.ntmps301;go_wp2_with fail;go_ret;exact⟨A0 H.out.symm,rfl⟩
 ·have H:Hid (E5 c=true):=Lq7 (by simp[E5];omega);go_enter Tryz.func301,Tryz.ntmps301;go_wp2_with fail;go_ret;exact⟨A0 H.out.symm,rfl⟩
 ·have H:Hid (E5 c=true):=Lq7 (by simp[E5];omega);go_enter Tryz.func301,Tryz.ntmps301;go_wp2_with fail;go_ret;exact⟨A0 H.out.symm,rfl⟩
 ·have H:Hid (E5 c=false):=Lq7 (by simp[E5];omega);go_enter Tryz.func301,Tryz.ntmps301;go_wp2_with fail;go_ret;exact⟨A0 (by rw[H.out,decide_eq_false (p:=(c:Int)<=122) (by omega),decide_eq_false (p:=(c:Int)<=90) (by omega),decide_eq_false (p:=(c:Int)<=57) (by omega)];rfl),rfl⟩
 all_goals
  have H:=Lq7 (Wc c (by omega));go_enter Tryz.func301,Tryz.ntmps301;go_wp2_with fail;refine(Tryz.strings_IndexByte _ _ _).mono ?_;rintro e w' ⟨rfl,rfl⟩;rw[show(c:Int).toNat.toUInt8=c.toUInt8 from rfl];go_wp2_with fail;go_ret;refine⟨A0 ?_,rfl⟩;rw[H.out];(try rw[decide_eq_false (p:=(c:Int)<=122) (by omega)]);(try rw[decide_eq_false (p:=(c:Int)<=90) (by omega)]);(try rw[decide_eq_false (p:=(c:Int)<=57) (by omega)])
  all_goals rfl
theorem Abf(c:Nat)(w:World)(hc:c<=1114111):
  Calls Tryz.prog 300 #[.int .i32 c] w (PSign (!E5 c) w):=by
 go_enter Tryz.func300,Tryz.ntmps300;go_wp2_with fail;refine(Abe c _ hc).mono ?_;rintro e w' ⟨rfl,rfl⟩;go_wp2;go_ret;exact⟨rfl,rfl⟩
def Qs(l:List UInt8):Bool:=l.all fun b=>E5 b.toNat
def Gq(l:List UInt8):Bool:=!l.isEmpty&&decide (l.length<=64) && !(l==[46]) && !(l==[46,46])&&Qs l
theorem Ox{c}(h:E5 c=true):c<128:=by
 simp only[E5,Bool.or_eq_true,bAt,decide_eq_true_eq,beq_iff_eq] at h;omega
theorem Yj(s pos)(h:128<=(s.get! pos).toNat):128<=(Utf8.decode s pos).1:=by
 unfold Utf8.decode;simp only[Nat.add_zero];rw[if_neg (by omega)];split
 ·split<;>simp_all [Utf8.runeError]
 ·split
  ·split
   ·rename_i h1;simp only[ge_iff_le,bAt,decide_eq_true_eq] at h1;simp only;omega
   ·simp[Utf8.runeError]
  ·split
   ·split
    ·rename_i h1;simp only[ge_iff_le,bAt,decide_eq_true_eq] at h1;simp only;omega
    ·simp[Utf8.runeError]
   ·simp[Utf8.runeError]
theorem Tv(s pos)(h:(s.get! pos).toNat<128):Utf8.decode s pos=((s.get! pos).toNat,1):=by
 unfold Utf8.decode;simp only[Nat.add_zero];rw[if_pos (by omega)]
theorem Re(s):∀(f pos:Nat),s.size-pos<=f->(decide (0<=Lib.idxFuncFrom (fun c=> !E5 c) true s f pos)) = !((s.data.toList.drop pos).all fun b=>E5 b.toNat):=by
 intro f
 induction f with
 | zero=>
  intro pos h;rw[List.drop_of_length_le (by rw[Al];omega)];rfl
 | succ f ih=>
  intro pos h;by_cases hp:pos<s.size
  ·have hd:s.data.toList.drop pos=s[pos]::s.data.toList.drop (pos+1):=by
    rw[List.drop_eq_getElem_cons (by rw[Al];exact hp)];rfl
   have hg:s.get! pos=s[pos]:=by
    show s.data[pos]! = s.data[pos];exact getElem!_pos s.data pos hp
   unfold Lib.idxFuncFrom;rw[if_pos hp,hd,List.all_cons];by_cases hb:(s[pos]).toNat<128
   ·rw[Tv s pos (by rw[hg];exact hb),hg];cases hs:E5 (s[pos]).toNat
    ·simp
    ·simp only[Bool.not_true,Bool.false_eq_true,if_false,Bool.true_and];exact ih (pos+1) (by omega)
   ·have h1:=Yj s pos (by rw[hg];omega);have h2:E5 (Utf8.decode s pos).1=false:=by
     rw[Bool.eq_false_iff];intro h;have:=Ox h;omega
    have h3:E5 (s[pos]).toNat=false:=by
     rw[Bool.eq_false_iff];intro h;have:=Ox h;omega
    rw[h2,h3];simp
  ·rw[Lib.idxFuncFrom_end _ _ _ _ _ hp,List.drop_of_length_le (by rw[Al];omega)];rfl
theorem Abc(s):(decide (0<=Lib.idxFunc (fun c=> !E5 c) true s)) = !(Qs s.data.toList):=Re s s.size 0 (by omega)
theorem V1(w):PredGrows Tryz.prog 300 #[] (fun c=> !E5 c) w:=fun W x hx _=>
 (Abf x W hx).mono fun _ _ ⟨he,hw⟩=>⟨he,hw▸Below.refl _ _⟩
theorem Yk{s:ByteArray}(h:s.toList=[]):Gq s.data.toList=false:=by rw[<-Lq8,h];rfl
theorem Yl{s:ByteArray}(h:s.toList=[46]):Gq s.data.toList=false:=by rw[<-Lq8,h];rfl
theorem V3{s:ByteArray}(h:s.toList=[46,46]):Gq s.data.toList=false:=by rw[<-Lq8,h];rfl
theorem V4{s:ByteArray}(h:(64:Int)<s.size):Gq s.data.toList=false:=by
 unfold Gq;rw[Al,decide_eq_false (p:=s.size<=64) (by omega)];simp
theorem V9{s:ByteArray}(h1:¬s.toList=[])(h2:(s.size:Int)<=64)(h3:¬s.toList=[46])(h4:¬s.toList=[46,46]):Gq s.data.toList=Qs s.data.toList:=by
 rw[Lq8] at h1 h3 h4;unfold Gq;rw[Al,decide_eq_true (p:=s.size<=64) (by omega),beq_false_of_ne h3,beq_false_of_ne h4];rw[show s.data.toList.isEmpty=false by simpa using h1];rfl
theorem Abd{s:ByteArray}{b:Bool}(h1:¬s.toList=[])(h3:¬s.toList=[46])(h4:¬s.toList=[46,46]):(!s.toList.isEmpty && !s.toList==[46] && !s.toList==[46,46]&&b)=b:=by
 rw[beq_false_of_ne h3,beq_false_of_ne h4,show s.toList.isEmpty=false by simpa using h1];rfl
def Tw(b:Bool)(w:World)(e:Ending)(w':World):Prop:=e = .returned (.bool b)/\Below w.heap.size w w'
theorem Tx(s w):
  Calls Tryz.prog 294 #[C s] w (Tw (Gq s.data.toList) w):=by
 have aA:=Tryz.strings_ContainsFunc_grows 300 #[] (enters_of Tryz.func300 (by kernel_rfl) rfl) (fun c=> !E5 c) s w (V1 w);have Hgo:=Lq7 aA;clear aA;go_enter Tryz.func294,Tryz.ntmps294;go_wp2_with fail
 ·go_ret;exact⟨A0 (Yk ‹_›).symm,Below.refl _ _⟩
 ·go_ret;exact⟨A0 (Yl ‹_›).symm,Below.refl _ _⟩
 ·go_ret;exact⟨A0 (V3 ‹_›).symm,Below.refl _ _⟩
 ·have H:=Lq7 (V9 (s:=s) ‹_› ‹_› ‹_› ‹_›);refine Hgo.out.mono ?_;rintro e w' ⟨rfl,hb⟩;rw[Abc];go_wp2_with fail;go_ret;exact⟨A0 (by rw[H.out];exact Abd ‹_› ‹_› ‹_›),hb⟩
 ·go_ret;exact⟨A0 (V4 ‹_›).symm,Below.refl _ _⟩
end Go.Proofs.YtlbbbapiklendaaGreatDoor
