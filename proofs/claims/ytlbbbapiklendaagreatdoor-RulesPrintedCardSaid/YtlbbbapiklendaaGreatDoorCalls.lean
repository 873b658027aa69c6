/-
  The walks of the plain host's table of calls.
-/
import Derived.Test.YtlbbbapiklendaaGreatDoorMRawMap
import Derived.Laws.EntriesVeiled
namespace Go.Proofs.YtlbbbapiklendaaGreatDoor
open Nat renaming le_refl->nlr
open And renaming intro->aIn
set_option maxRecDepth 100000
set_option maxHeartbeats 16000000
open Go Go.RowKit Go.Maps Go.WideMaps
def Ls(m:Nat)(w:World)(b g:Nat):Prop:=m<b/\w.heap[b]? = some (.cells #[.func (.func g) #[] #[]] 143 (0,0))
theorem Ls.below{m w w' b g}(h:Ls m w b g)(hb:Below w.heap.size w w'):Ls m w' b g:=⟨h.1,(hb.block b (Array.getElem?_eq_some_iff.1 h.2).1).trans h.2⟩
theorem Ls.put{w m b g}(h:Ls m w b g)(o):Ls m (w.putObj m o) b g:=⟨h.1,(World.putObj_heap_other (by have:=h.1;omega)).trans h.2⟩
theorem Pp(g m w)(hm:m<w.heap.size):Calls Tryz.prog 276 #[.func (.func g) #[] #[]] w (fun e w'=>∃b,e = .returned (.agg #[.int .i64 1,.func (.func 287) #[] #[.pointer (some ⟨b,0,none⟩)]])/\Below w.heap.size w w'/\Ls m w' b g):=by
 have hmf:∀(fn:Fn) (first cap:Array Value) (w:World),(Instr.makeFunc fn first cap).run Tryz.prog w = .ok (.func fn first cap) w:=fun _ _ _ _=>rfl;have Hb:Hid (Ls m (w.alloc (.cells #[.func (.func g) #[] #[]] 143)) w.heap.size g):=Lib.hid ⟨hm,heap_alloc_new w _⟩;go_enter Tryz.func276,Tryz.ntmps276;go_wp2;refine bodyPost_ret (v:=.agg #[.int .i64 1,.func (.func 287) #[] #[.pointer (some ⟨w.heap.size,0,none⟩)]]) (by simp[results,Tryz.results276,go_sem]) rfl ?_;exact⟨_,rfl,(((Below.refl _ w).alloc (nlr _) _).alloc (by simp) _),Hb.out.below ((Below.refl _ _).alloc (nlr _) _)⟩
theorem Cq.add{P k e t w b m}(h:Cq w b m)(K:Keyed P k)(ht:P.underlying t=some (.map k e))(hk:J0 P k m){key kl}(hkey:keyOf P k key=some kl)(val)(hn:∀p∈m,p.1≠key):
  ∃o,(Instr.mapUpdate t (.map (some b)) key val).run P w = .ok () (w.putObj b o)/\Cq (w.putObj b o) b (m++[(key,val)])/\J0 P k (m++[(key,val)]):=by
 obtain⟨o,m',h1,h2,h3⟩:=h.store K ht hk hkey val;have h4:=h3.keys hk hkey;rcases h3 with⟨-,rfl⟩|⟨j,v,hj,rfl⟩
 ·exact⟨o,h1,h2,h4⟩
 ·exact absurd rfl (hn _ (List.mem_of_getElem? hj))
theorem Aae{w w' b}(h:Below w.heap.size w w')(hb:w.heap.size<=b)(o):Below w.heap.size w (w'.putObj b o):=
 ⟨h.os,h.tape,h.output,by simpa[World.putObj] using h.size,fun k hk=>(World.putObj_heap_other (by omega)).trans (h.block k hk)⟩
def Pq(w0 w:World)(b:Nat)(m:List (Value×Value)):Prop:=Cq w b m/\J0 Tryz.prog 9 m/\Below w0.heap.size w0 w
theorem Pq.add{w0 w b m}(h:Pq w0 w b m)(hb:w0.heap.size<=b)(s)(hs:s.size<=maxLen)(val)(hn:∀p∈m,p.1 ≠ .string s):
  ∃w',(Instr.mapUpdate 333 (.map (some b)) (.string s) val).run Tryz.prog w = .ok () w'/\Pq w0 w' b (m++[(.string s,val)])/\∀g c,Ls b w g c->Ls b w' g c:=by
 obtain⟨o,h1,h2,h3⟩:=h.1.add (string_keyed Tryz.underlying9) Tryz.underlying333 h.2.1 (keyOf_string_mk Tryz.underlying9 hs) val hn;exact⟨_,h1,⟨h2,h3,Aae h.2.2 hb o⟩,fun g c hp=>hp.put o⟩
theorem Pq.below{w0 w w' b m}(h:Pq w0 w b m)(hb:Below w.heap.size w w'):Pq w0 w' b m:=⟨h.1.below hb,h.2.1,h.2.2.trans (hb.mono h.2.2.size)⟩
def Eu(n:Int)(f:Nat):Value:=.agg #[.int .i64 n,.func (.func f) #[] #[]]
def Er(l:List UInt8):Value:=.string ⟨l.toArray⟩
def Br:List (Value×Value):=
  [(Er [108,101,110],Eu 1 270),(Er [106,111,105,110],Eu 2 271),(Er [108,105,110,101,115],Eu 1 272),(Er [115,111,114,116,101,100],Eu 1 273),
   (Er [115,116,114],Eu 1 274),(Er [114,101,112,108,97,99,101],Eu 3 275)]
def J5(b:Nat):Value:=.agg #[.int .i64 1,.func (.func 287) #[] #[.pointer (some ⟨b,0,none⟩)]]
def Cm(b1 b2 b3:Nat):List (Value×Value):=Br++[(Er [115,116,101,109],J5 b1)]++[(Er [101,120,116],J5 b2)]++[(Er [98,97,115,101],J5 b3)]
theorem Lj(w):Calls Tryz.prog 269 #[] w (fun e w'=>∃b1 b2 b3,e = .returned (.map (some w.heap.size))/\Cq w' w.heap.size (Cm b1 b2 b3)/\Below w.heap.size w w'/\Ls w.heap.size w' b1 277/\Ls w.heap.size w' b2 280/\Ls w.heap.size w' b3 279):=by
 have hmm:=@run_makeMap Tryz.prog;have t0:Pq w (w.alloc (.map #[] 0)) w.heap.size []:=⟨Cq.made w,(by intro p hp;cases hp),(Below.refl _ w).alloc (nlr _) _⟩;obtain⟨W1,r0,t1,-⟩:=t0.add (nlr _) ⟨#[108,101,110]⟩ (by decide) (Eu 1 270) (by simp[]);unfold Eu at r0;obtain⟨W2,r1,t2,-⟩:=t1.add (nlr _) ⟨#[106,111,105,110]⟩ (by decide) (Eu 2 271) (by simp[]);unfold Eu at r1;obtain⟨W3,r2,t3,-⟩:=t2.add (nlr _) ⟨#[108,105,110,101,115]⟩ (by decide) (Eu 1 272) (by simp[]);unfold Eu at r2;obtain⟨W4,r3,t4,-⟩:=t3.add (nlr _) ⟨#[115,111,114,116,101,100]⟩ (by decide) (Eu 1 273) (by simp[]);unfold Eu at r3;obtain⟨W5,r4,t5,-⟩:=t4.add (nlr _) ⟨#[115,116,114]⟩ (by decide) (Eu 1 274) (by simp[]);unfold Eu at r4;obtain⟨W6,r5,t6,-⟩:=t5.add (nlr _) ⟨#[114,101,112,108,97,99,101]⟩ (by decide) (Eu 3 275) (by simp[]);unfold Eu at r5;have T:=Lib.hid t6;go_enter Tryz.func269,Tryz.ntmps269;go_wp2_with fail;refine(Pp _ w.heap.size _ T.out.1.lt).mono ?_;rintro e V6 ⟨b6,rfl,hb,aA⟩;have t6:=T.out.below hb;obtain⟨W7,r6,t7,k7⟩:=t6.add (nlr _) ⟨#[115,116,101,109]⟩ (by decide) (J5 b6) (by simp[]);have aA:=k7 _ _ aA;unfold J5 at r6;have T:=Lib.hid (aIn t7 aA);go_wp2_with fail;refine(Pp _ w.heap.size _ T.out.1.1.lt).mono ?_;rintro e V7 ⟨b7,rfl,hb,aB⟩;have t7:=T.out.1.below hb;have aA:=T.out.2.below hb;obtain⟨W8,r7,t8,k8⟩:=t7.add (nlr _) ⟨#[101,120,116]⟩ (by decide) (J5 b7) (by simp[]);have aA:=k8 _ _ aA;have aB:=k8 _ _ aB;unfold J5 at r7;have T:=Lib.hid (aIn t8 (aIn aA aB));go_wp2_with fail;refine(Pp _ w.heap.size _ T.out.1.1.lt).mono ?_;rintro e V8 ⟨b8,rfl,hb,aC⟩;have t8:=T.out.1.below hb;have aA:=T.out.2.1.below hb;have aB:=T.out.2.2.below hb;obtain⟨W9,r8,t9,k9⟩:=t8.add (nlr _) ⟨#[98,97,115,101]⟩ (by decide) (J5 b8) (by simp[]);have aA:=k9 _ _ aA;have aB:=k9 _ _ aB;have aC:=k9 _ _ aC;unfold J5 at r8;have T:=Lib.hid (aIn t9 (aIn aA (aIn aB aC)));go_wp2_with fail;go_ret;exact⟨_,_,_,rfl,T.out.1.1,T.out.1.2.2,T.out.2⟩
end Go.Proofs.YtlbbbapiklendaaGreatDoor