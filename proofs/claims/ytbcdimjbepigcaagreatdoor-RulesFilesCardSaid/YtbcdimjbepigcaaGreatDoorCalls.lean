/-
  The walks of the plain host's table of calls.
-/
import Derived.Test.YtbcdimjbepigcaaGreatDoorMRawMap
import Derived.Test.YtbcdimjbepigcaaGreatDoorMParseNz
import Derived.StringKeys
import Derived.Laws.EntriesVeiled
namespace Go.Proofs.YtbcdimjbepigcaaGreatDoor
open Nat renaming le_refl->nlr
open And renaming intro->aIn
set_option maxRecDepth 100000
set_option maxHeartbeats 16000000
open Go Go.RowKit Go.Maps Go.WideMaps
def Js(m:Nat)(w:World)(b g:Nat):Prop:=m<b/\w.heap[b]? = some (.cells #[.func (.func g) #[] #[]] 73 (0,0))
theorem Js.below{m w w' b g}(h:Js m w b g)(hb:Below w.heap.size w w'):Js m w' b g:=⟨h.1,(hb.block b (Array.getElem?_eq_some_iff.1 h.2).1).trans h.2⟩
theorem Js.put{w m b g}(h:Js m w b g)(o):Js m (w.putObj m o) b g:=⟨h.1,(World.putObj_heap_other (by have:=h.1;omega)).trans h.2⟩
theorem M5(g m w)(hm:m<w.heap.size):Calls Tryz.prog 296 #[.func (.func g) #[] #[]] w (fun e w'=>∃b,e = .returned (.agg #[.int .i64 1,.func (.func 305) #[] #[.pointer (some ⟨b,0,none⟩)]])/\Below w.heap.size w w'/\Js m w' b g):=by
 have hmf:∀(fn:Fn) (first cap:Array Value) (w:World),(Instr.makeFunc fn first cap).run Tryz.prog w = .ok (.func fn first cap) w:=fun _ _ _ _=>rfl;have Hb:Hid (Js m (w.alloc (.cells #[.func (.func g) #[] #[]] 73)) w.heap.size g):=Lib.hid ⟨hm,heap_alloc_new w _⟩;go_enter Tryz.func296,Tryz.ntmps296;go_wp2;refine bodyPost_ret (v:=.agg #[.int .i64 1,.func (.func 305) #[] #[.pointer (some ⟨w.heap.size,0,none⟩)]]) (by simp[results,Tryz.results296,go_sem]) rfl ?_;exact⟨_,rfl,(((Below.refl _ w).alloc (nlr _) _).alloc (by simp) _),Hb.out.below ((Below.refl _ _).alloc (nlr _) _)⟩
theorem Co.add{P k e t w b m}(h:Co w b m)(K:Keyed P k)(ht:P.underlying t=some (.map k e))(hk:Iu P k m){key kl}(hkey:keyOf P k key=some kl)(val)(hn:∀p∈m,p.1≠key):
  ∃o,(Instr.mapUpdate t (.map (some b)) key val).run P w = .ok () (w.putObj b o)/\Co (w.putObj b o) b (m++[(key,val)])/\Iu P k (m++[(key,val)]):=by
 obtain⟨o,m',h1,h2,h3⟩:=h.store K ht hk hkey val;have h4:=h3.keys hk hkey;rcases h3 with⟨-,rfl⟩|⟨j,v,hj,rfl⟩
 ·exact⟨o,h1,h2,h4⟩
 ·exact absurd rfl (hn _ (List.mem_of_getElem? hj))
theorem U3{w w' b}(h:Below w.heap.size w w')(hb:w.heap.size<=b)(o):Below w.heap.size w (w'.putObj b o):=
 ⟨h.os,h.tape,h.output,by simpa[World.putObj] using h.size,fun k hk=>(World.putObj_heap_other (by omega)).trans (h.block k hk)⟩
def M6(w0 w:World)(b:Nat)(m:List (Value×Value)):Prop:=Co w b m/\Iu Tryz.prog 9 m/\Below w0.heap.size w0 w
theorem M6.add{w0 w b m}(h:M6 w0 w b m)(hb:w0.heap.size<=b)(s)(hs:s.size<=maxLen)(val)(hn:∀p∈m,p.1 ≠ .string s):
  ∃w',(Instr.mapUpdate 338 (.map (some b)) (.string s) val).run Tryz.prog w = .ok () w'/\M6 w0 w' b (m++[(.string s,val)])/\∀g c,Js b w g c->Js b w' g c:=by
 obtain⟨o,h1,h2,h3⟩:=h.1.add (string_keyed Tryz.underlying9) Tryz.underlying338 h.2.1 (keyOf_string_mk Tryz.underlying9 hs) val hn;exact⟨_,h1,⟨h2,h3,U3 h.2.2 hb o⟩,fun g c hp=>hp.put o⟩
theorem M6.below{w0 w w' b m}(h:M6 w0 w b m)(hb:Below w.heap.size w w'):M6 w0 w' b m:=⟨h.1.below hb,h.2.1,h.2.2.trans (hb.mono h.2.2.size)⟩
def Ei(n:Int)(f:Nat):Value:=.agg #[.int .i64 n,.func (.func f) #[] #[]]
def Ee(l:List UInt8):Value:=.string ⟨l.toArray⟩
def Bn:List (Value×Value):=
  [(Ee [108,101,110],Ei 1 290),(Ee [106,111,105,110],Ei 2 291),(Ee [108,105,110,101,115],Ei 1 292),(Ee [115,111,114,116,101,100],Ei 1 293),
   (Ee [115,116,114],Ei 1 294),(Ee [114,101,112,108,97,99,101],Ei 3 295)]
def Iz(b:Nat):Value:=.agg #[.int .i64 1,.func (.func 305) #[] #[.pointer (some ⟨b,0,none⟩)]]
def Cl(b1 b2 b3:Nat):List (Value×Value):=Bn++[(Ee [115,116,101,109],Iz b1)]++[(Ee [101,120,116],Iz b2)]++[(Ee [98,97,115,101],Iz b3)]
theorem Gm(w):Calls Tryz.prog 289 #[] w (fun e w'=>∃b1 b2 b3,e = .returned (.map (some w.heap.size))/\Co w' w.heap.size (Cl b1 b2 b3)/\Below w.heap.size w w'/\Js w.heap.size w' b1 297/\Js w.heap.size w' b2 300/\Js w.heap.size w' b3 299):=by
 have hmm:=@run_makeMap Tryz.prog;have t0:M6 w (w.alloc (.map #[] 0)) w.heap.size []:=⟨Co.made w,(by intro p hp;cases hp),(Below.refl _ w).alloc (nlr _) _⟩;obtain⟨W1,r0,t1,-⟩:=t0.add (nlr _) ⟨#[108,101,110]⟩ (by decide) (Ei 1 290) (by simp[]);unfold Ei at r0;obtain⟨W2,r1,t2,-⟩:=t1.add (nlr _) ⟨#[106,111,105,110]⟩ (by decide) (Ei 2 291) (by simp[]);unfold Ei at r1;obtain⟨W3,r2,t3,-⟩:=t2.add (nlr _) ⟨#[108,105,110,101,115]⟩ (by decide) (Ei 1 292) (by simp[]);unfold Ei at r2;obtain⟨W4,r3,t4,-⟩:=t3.add (nlr _) ⟨#[115,111,114,116,101,100]⟩ (by decide) (Ei 1 293) (by simp[]);unfold Ei at r3;obtain⟨W5,r4,t5,-⟩:=t4.add (nlr _) ⟨#[115,116,114]⟩ (by decide) (Ei 1 294) (by simp[]);unfold Ei at r4;obtain⟨W6,r5,t6,-⟩:=t5.add (nlr _) ⟨#[114,101,112,108,97,99,101]⟩ (by decide) (Ei 3 295) (by simp[]);unfold Ei at r5;have T:=Lib.hid t6;go_enter Tryz.func289,Tryz.ntmps289;go_wp2_with fail;refine(M5 _ w.heap.size _ T.out.1.lt).mono ?_;rintro e V6 ⟨b6,rfl,hb,aB⟩;have t6:=T.out.below hb;obtain⟨W7,r6,t7,k7⟩:=t6.add (nlr _) ⟨#[115,116,101,109]⟩ (by decide) (Iz b6) (by simp[]);have aB:=k7 _ _ aB;unfold Iz at r6;have T:=Lib.hid (aIn t7 aB);go_wp2_with fail;refine(M5 _ w.heap.size _ T.out.1.1.lt).mono ?_;rintro e V7 ⟨b7,rfl,hb,aC⟩;have t7:=T.out.1.below hb;have aB:=T.out.2.below hb;obtain⟨W8,r7,t8,k8⟩:=t7.add (nlr _) ⟨#[101,120,116]⟩ (by decide) (Iz b7) (by simp[]);have aB:=k8 _ _ aB;have aC:=k8 _ _ aC;unfold Iz at r7;have T:=Lib.hid (aIn t8 (aIn aB aC));go_wp2_with fail;refine(M5 _ w.heap.size _ T.out.1.1.lt).mono ?_;rintro e V8 ⟨b8,rfl,hb,aD⟩;have t8:=T.out.1.below hb;have aB:=T.out.2.1.below hb;have aC:=T.out.2.2.below hb;obtain⟨W9,r8,t9,k9⟩:=t8.add (nlr _) ⟨#[98,97,115,101]⟩ (by decide) (Iz b8) (by simp[]);have aB:=k9 _ _ aB;have aC:=k9 _ _ aC;have aD:=k9 _ _ aD;unfold Iz at r8;have T:=Lib.hid (aIn t9 (aIn aB (aIn aC aD)));go_wp2_with fail;go_ret;exact⟨_,_,_,rfl,T.out.1.1,T.out.1.2.2,T.out.2⟩
end Go.Proofs.YtbcdimjbepigcaaGreatDoor