/-
  The walks of strings.NewReplacer at the six texts of lex.Quote, and of (*strings.Replacer).Replace.
  The walk of lex.Quote: a text as a token.
  The walk of the document's Quote.
-/
import Derived.Handy
import Derived.Test.YtcofbdjakicojaaGreatDoorMOnce
import Derived.Test.YtcofbdjakicojaaGreatDoorReplRun
import Derived.Test.YtcofbdjakicojaaGreatDoorMEvalPlain
import Derived.Test.YtcofbdjakicojaaGreatDoorMRefNum
namespace Go.Proofs.YtcofbdjakicojaaGreatDoor
open Go Go.RowKit
open List renaming getElem?_map → lgP, mem_of_getElem? → lgM, length_cons → lnC, take_add_one → ltA, take_of_length_le → ltL, length_take → lnT
open Nat renaming le_refl → nlr, le_trans → nlt, zero_le → nlz
open Go.Lib renaming hid → Lq7
set_option maxRecDepth 100000
set_option maxHeartbeats 16000000
theorem Q4 (b n : Nat) (hn : n ≤ b) (ob oc : Nat) (s : ByteArray) (w : World) (hnw : n ≤ w.heap.size) (h : RB w b 0 0 .nilIface (.slice (some ⟨ob, 0, none⟩) 6 oc)) (hs : Ax w (some ⟨ob, 0, none⟩) quoteOld) (hob : ob ≠ b) (hz : s.size ≤ 65536) :
  Calls Tryz.prog 267 #[.pointer (some ⟨b, 0, none⟩), .string s] w (fun e w' => ∃ o : ByteArray, e = .returned (.string o) ∧ o.data.toList = escL s.data.toList ∧ Below n w w') := by
 have HO := Lq7 (once_any b n hn ob oc w hnw h hs hob);have hmf : ∀ (fn : Fn) (first cap : Array Value) (w : World), (Instr.makeFunc fn first cap).run Tryz.prog w = .ok (.func fn first cap) w := fun _ _ _ _ => rfl;clear h hs;go_enter Tryz.func267, Tryz.ntmps267;go_wp2_with fail;refine HO.out.mono ?_;rintro e w1 ⟨rfl, rb, aC, aE, aI⟩;have HR := Lq7 (Q8 s rb _ w1 aE hz);have Hb1 := Lq7 aC;have hsz := aC.size;obtain ⟨-, q0, q1, q2, q3, q4, -⟩ := five_facts aI;clear HO aC aE aI;go_wp2_with fail;refine HR.out.mono ?_;rintro e w2 ⟨o, rfl, ho, aF⟩;go_wp2_with fail;go_ret;exact ⟨o, rfl, ho, Hb1.out.trans (aF.mono (nlt hnw hsz))⟩
def PNewRepl (w : World) (e : Ending) (w' : World) : Prop := ∃ b ob oc, e = .returned (.pointer (some ⟨b, 0, none⟩)) ∧ Below w.heap.size w w' ∧ w.heap.size ≤ b ∧ RB w' b 0 0 .nilIface (.slice (some ⟨ob, 0, none⟩) 6 oc) ∧ Ax w' (some ⟨ob, 0, none⟩) quoteOld ∧ ob ≠ b
theorem Q5 (ab cap : Nat) (w : World) (hs : Ax w (some ⟨ab, 0, none⟩) quoteOld) :
  Calls Tryz.prog 266 #[.slice (some ⟨ab, 0, none⟩) 6 cap] w (PNewRepl w) := by
 obtain ⟨i0, hi, hz0, hz1, hz2⟩ := info_parts infoStr;have aB : ∀ (j : Nat) u, (quoteOld.map Value.string)[j]? = some u → w.cell? ((⟨ab, 0, none⟩ : Addr).add j) = some u := fun j u hj => by
  rw [lgP] at hj;cases hx : quoteOld[j]? with
  | none => rw [hx] at hj; cases hj
  | some x =>
   rw [hx] at hj;cases hj;obtain ⟨b', off, e, hc⟩ := hs j x hx;cases e;have aH : ((⟨ab, 0, none⟩ : Addr).add j) = ⟨ab, 0 + j, none⟩ := by unfold Addr.add; split <;> simp_all
   rw [aH];exact hc
 have Hn := Lq7 aB;clear aB hs;go_enter Tryz.func266, Tryz.ntmps266
 go_wp2_with (at_builtin; refine Bb rfl _ _ 29 rfl w.heap.size 9 i0 (.string ByteArray.empty) 1 16 Tryz.underlying29 hi hz0 hz1 hz2 rfl (by decide) (.slice none 0 0) 0 [] rfl ⟨rfl, .inl ⟨rfl, rfl⟩⟩ ⟨ab, 0, none⟩ 6 cap (quoteOld.map Value.string) rfl rfl Hn.out ?_ ?_ ?_ ?_ ?_)
 ·intro u hu;obtain ⟨x, -, rfl⟩ := List.mem_map.1 hu;rfl
 ·unfold maxLen; decide
 ·decide
 ·exact nlr _
 intro v w1 hown hg _;have hown' : OwnS w1 w.heap.size v quoteOld := hown;have hsh := hown';obtain ⟨h1, ⟨-, h2⟩ | ⟨ob, oc, cur, rfl, h3, h4, -⟩⟩ := hsh
 ·cases h2
 have aG := hown'.strsAt;obtain ⟨a, c, he, aG, -⟩ := aG;obtain rfl : a = some ⟨ob, 0, none⟩ := (by injection he with e1; exact e1.symm);have hobl := (Array.getElem?_eq_some_iff.1 h4).1;have aC : Below w.heap.size w w1 := A9 (v := .slice none 0 0) hg (fun g e => by cases e) (nlr _);have H1 := Lq7 (And.intro aC aG);clear hown hown' hg h1 h4 he aG aC Hn;go_wp2_with fail;have aF : Below w1.heap.size w1 (w1.alloc (.cells #[.int .u32 0, .int .i32 0, .int .u32 0, .nilIface, .slice (some ⟨ob, 0, none⟩) 6 oc] 298)) := (Below.refl _ w1).alloc (nlr _) _;go_ret;exact ⟨_, ob, oc, rfl, H1.out.1.trans (aF.mono H1.out.1.size), H1.out.1.size, heap_alloc_new w1 _, H1.out.2.below aF, by omega⟩
def G2 (c : UInt8) : Bool := decide (c.toNat < 32 ∧ c.toNat ≠ 10 ∨ c.toNat = 127)
def quoteL (l : List UInt8) : List UInt8 := if l.any G2 then [] else 34 :: escL l ++ [34]
theorem N2 {l : List UInt8} {k : Nat} (h : k < l.length) (hb : G2 l[k] = true) : quoteL l = [] := by
 unfold quoteL;rw [if_pos (List.any_eq_true.2 ⟨l[k], List.getElem_mem h, hb⟩)]
theorem quote_ok {l : List UInt8} (h : ∀ j (hj : j < l.length), G2 l[j] = false) : quoteL l = 34 :: escL l ++ [34] := by
 unfold quoteL;rw [if_neg];intro ha;obtain ⟨x, hx, hb⟩ := List.any_eq_true.1 ha;obtain ⟨j, hj, rfl⟩ := List.mem_iff_getElem.1 hx;rw [h j hj] at hb;cases hb
theorem N3 (s : ByteArray) (w : World) (hz : s.size ≤ 65536) :
  Calls Tryz.prog 258 #[.string s] w (Dp (quoteL s.data.toList) w) := by
 go_enter Tryz.func258, Tryz.ntmps258;go_wp2_with fail
 go_loop [6] (fun i => ∃ k : Nat, i = .int .i64 k ∧ k ≤ s.size ∧ Hid (∀ j (hj : j < s.data.toList.length), j < k → G2 s.data.toList[j] = false)) (fun i => s.size - (intOf i).toNat)
 case atStart => exact ⟨0, rfl, nlz _, Lq7 (fun j _ h => absurd h (Nat.not_lt_zero _))⟩
 case round =>
  obtain ⟨k, rfl, hk, aF⟩ := hrel;by_cases hlt : k < s.size
  ·have hkl : k < s.data.toList.length := (by rw [Af]; exact hlt);have aC : Hid (G2 s[k] = true → quoteL s.data.toList = []) := Lq7 (fun h => N2 hkl h);have aB : Hid (G2 s[k] = false → ∀ j (hj : j < s.data.toList.length), j < k + 1 → G2 s.data.toList[j] = false) := Lq7 (fun h j hj hjk => by
    rcases Nat.lt_succ_iff_lt_or_eq.1 hjk with h1 | h1
    ·exact aF.out j hj h1
    ·subst h1; exact h)
   by_cases h1 : (s[k].toNat : Int) < 32
   ·by_cases h2 : (s[k].toNat : Int) = 10
    ·have h2b : ((s[k].toNat : Int) != 10) = false := (by simp [h2]);have aI : ((s[k].toNat : Int) == 127) = false := (by rw [h2]; rfl);have Hn := Lq7 (aB.out (by unfold G2; rw [decide_eq_false]; omega));clear aB aC h2;go_wp2_with fail;go_round
     case rel => exact ⟨k + 1, by go_num, by omega, Hn⟩
     case measure => simp only [intOf]; omega
    ·have h2b : ((s[k].toNat : Int) != 10) = true := (by simpa using h2);have Hn := Lq7 (aC.out (by unfold G2; rw [decide_eq_true]; omega));clear aB aC;go_wp2_with fail;go_ret;exact ⟨_, rfl, Hn.out.symm, Below.refl _ _⟩
   ·by_cases h3 : (s[k].toNat : Int) = 127
    ·have aI : ((s[k].toNat : Int) == 127) = true := (by rw [h3]; rfl);have Hn := Lq7 (aC.out (by unfold G2; rw [decide_eq_true]; omega));clear aB aC;go_wp2_with fail;go_ret;exact ⟨_, rfl, Hn.out.symm, Below.refl _ _⟩
    ·have aI : ((s[k].toNat : Int) == 127) = false := (by simpa using h3);have Hn := Lq7 (aB.out (by unfold G2; rw [decide_eq_false]; omega));clear aB aC;go_wp2_with fail;go_round
     case rel => exact ⟨k + 1, by go_num, by omega, Hn⟩
     case measure => simp only [intOf]; omega
  ·have Hq : Hid (quoteL s.data.toList = 34 :: escL s.data.toList ++ [34]) := Lq7 (quote_ok fun j hj => aF.out j hj (by have := Af s; omega));have aE : Ax (w.alloc (.cells #[.string ⟨#[34]⟩, .string ⟨#[92, 34]⟩, .string ⟨#[92]⟩, .string ⟨#[92, 92]⟩, .string ⟨#[10]⟩, .string ⟨#[92, 110]⟩] 9)) (some ⟨w.heap.size, 0, none⟩) quoteOld := fun j x hj => by
    refine ⟨w.heap.size, 0, rfl, ?_⟩;obtain ⟨-, hc, -⟩ := Ao (heap_alloc_new w (.cells #[.string ⟨#[34]⟩, .string ⟨#[92, 34]⟩, .string ⟨#[92]⟩, .string ⟨#[92, 92]⟩, .string ⟨#[10]⟩, .string ⟨#[92, 110]⟩] 9));rw [Nat.zero_add, hc, show (#[Value.string ⟨#[34]⟩, .string ⟨#[92, 34]⟩, .string ⟨#[92]⟩, .string ⟨#[92, 92]⟩, .string ⟨#[10]⟩, .string ⟨#[92, 110]⟩] : Array Value) = (quoteOld.map Value.string).toArray from rfl, List.getElem?_toArray, lgP, hj];rfl
   have HN := Lq7 (Q5 w.heap.size 6 _ aE);have aG : Hid (Below w.heap.size w (w.alloc (.cells #[.string ⟨#[34]⟩, .string ⟨#[92, 34]⟩, .string ⟨#[92]⟩, .string ⟨#[92, 92]⟩, .string ⟨#[10]⟩, .string ⟨#[92, 110]⟩] 9))) := Lq7 ((Below.refl _ w).alloc (nlr _) _);clear aE aF;go_wp2_with fail;refine HN.out.mono ?_;rintro e w1 ⟨b, ob, oc, rfl, aJ, hbl, aM, aE, aN⟩;have aQ := Lq7 (aG.out.trans (aJ.mono aG.out.size));have HR := Lq7 (Q4 b w.heap.size (nlt aG.out.size hbl) ob oc s w1 aQ.out.size aM aE aN hz);clear aJ hbl aM aE aN HN;go_wp2_with fail;refine HR.out.mono ?_;rintro e w2 ⟨o, rfl, ho, aR⟩;have hel := escL_len s.data.toList;have hen := Li s.data.toList;rw [← ho, Af, Af] at hel;rw [Af] at hen;have aH : Hid ((⟨#[34]⟩ ++ o ++ ⟨#[34]⟩ : ByteArray).data.toList = quoteL s.data.toList) := Lq7 (by
    rw [Hq.out, ByteArray.data_append, ByteArray.data_append, Array.toList_append, Array.toList_append, ho];rfl)
   have Hb2 := Lq7 (aQ.out.trans aR);clear ho aR HR;go_wp2_with fail;go_ret;exact ⟨_, rfl, aH.out, Hb2.out⟩
theorem N4 (s : ByteArray) (k : Nat) (h : k < s.size) : (s.extract k (k + 1)).data.toList = [s[k]] := by
 rw [Lib.extract_data, show k + 1 - k = 1 by omega, List.drop_eq_getElem_cons (by rw [Af]; exact h)]; rfl
theorem Su (l : List UInt8) (c : UInt8) : escL (l ++ [c]) = escL l ++ esc1 c := by simp [escL]
theorem esc_told (n : Nat) : escB n = decide (n = 10 ∨ n = 34 ∨ n = 92) := by
 unfold escB;by_cases h1 : n = 34
 ·subst h1; rfl
 ·by_cases h2 : n = 92
  ·subst h2; rfl
  ·by_cases h3 : n = 10
   ·subst h3; rfl
   ·simp [h1, h2, h3]
def noBad (l : List UInt8) : Prop := ∀ x ∈ l, G2 x = false
theorem Q0 {l : List UInt8} (h : noBad l) : quoteL l = 34 :: escL l ++ [34] := by
 unfold quoteL;rw [if_neg];intro ha;obtain ⟨x, hx, hb⟩ := List.any_eq_true.1 ha;rw [h x hx] at hb;cases hb
theorem esc_len (l : List UInt8) : (escL l).length ≤ 2 * l.length := by
 have h1 := escL_len l;have h2 : Be l ≤ l.length := List.countP_le_length;omega
theorem Gf (s : ByteArray) (w : World) (hs : s.size ≤ 65536) :
  Calls Tryz.prog 70 #[.string s] w (Dp (quoteL s.data.toList) w) := by
 go_enter Tryz.func70, Tryz.ntmps70;go_wp2_with fail
 go_loop [3, 4] (fun v i => ∃ (k : Nat) (o : ByteArray), i = .int .i64 k ∧ k ≤ s.size ∧ v = .string o ∧ Hid (o.data.toList = 34 :: escL (s.data.toList.take k)) ∧ Hid (noBad (s.data.toList.take k))) (fun _ i => s.size - (intOf i).toNat)
 case atStart => exact ⟨0, _, rfl, nlz _, rfl, Lq7 rfl, Lq7 (fun x hx => by cases hx)⟩
 case round =>
  obtain ⟨k, o, rfl, hk, rfl, ho, aI⟩ := hrel;have hos : o.size ≤ 131073 := by
   have h1 : o.data.toList.length = o.size := rfl;rw [ho.out, lnC] at h1;have h2 := esc_len (s.data.toList.take k);rw [lnT] at h2;omega
  by_cases hlt : k < s.size
  ·have Hk := Lq7 (D1 s k hlt);have aH : Hid (s.data.toList.take (k + 1) = s.data.toList.take k ++ [s[k]]) := Lq7 (by rw [ltA, Hk.out]; rfl);have aF : Hid (s[k] ∈ s.data.toList) := Lq7 (lgM Hk.out);have aB : Hid (G2 s[k] = false → ∀ z : ByteArray, z.data.toList = o.data.toList ++ esc1 s[k] → Hid (z.data.toList = 34 :: escL (s.data.toList.take (k + 1))) ∧ Hid (noBad (s.data.toList.take (k + 1)))) := Lq7 (fun hb z hz => by
    rw [aH.out, Su, hz, ho.out];refine ⟨Lq7 (by simp), Lq7 (fun x hx => ?_)⟩;rcases List.mem_append.1 hx with h | h
    ·exact aI.out x h
    ·rw [List.mem_singleton] at h;rw [h];exact hb)
   have aC := Lq7 (N4 s k hlt);clear ho aI;have hcN : (s[k].toNat : Int) = ((s[k].toNat : Nat) : Int) := rfl;have aE : Hid (escB s[k].toNat = decide (s[k].toNat = 10 ∨ s[k].toNat = 34 ∨ s[k].toNat = 92)) := Lq7 (esc_told _);by_cases h10 : ((s[k].toNat : Nat) : Int) = 10
   ·have hc : s[k] = 10 := UInt8.toNat_inj.1 (show (s[k]).toNat = 10 by omega);have e1 : (((s[k].toNat : Nat) : Int) == 10) = true := (by rw [beq_iff_eq]; exact h10);have Hs := Lq7 (aB.out (by unfold G2; rw [hc]; decide) (o ++ ⟨#[92, 110]⟩) (by rw [Av, hc]; rfl));clear hc aB aC aE;clear aF aH Hk;go_wp2_with fail;go_round
    case rel => exact ⟨k + 1, _, by go_num, by omega, rfl, Hs.out.1, Hs.out.2⟩
    case measure => simp only [intOf]; omega
   ·have e1 : (((s[k].toNat : Nat) : Int) == 10) = false := (by rw [beq_eq_false_iff_ne]; exact h10);by_cases hbad : ((s[k].toNat : Nat) : Int) < 32 ∨ ((s[k].toNat : Nat) : Int) = 127
    ·have Hq : Hid (quoteL s.data.toList = []) := Lq7 (N2 (k := k) (by rw [Af]; exact hlt) (by
      have : s.data.toList[k]'(by rw [Af]; exact hlt) = s[k] := rfl;rw [this];unfold G2;rw [decide_eq_true_eq];omega))
     clear aB aC aE aF aH Hk;by_cases h32 : ((s[k].toNat : Nat) : Int) < 32
     ·go_wp2_with fail;go_ret;exact ⟨_, rfl, Hq.out.symm, Below.refl _ w⟩
     ·have aG : ((s[k].toNat : Nat) : Int) = 127 := (by omega);have e3 : (((s[k].toNat : Nat) : Int) == 127) = true := (by rw [beq_iff_eq]; exact aG);go_wp2_with fail;go_ret;exact ⟨_, rfl, Hq.out.symm, Below.refl _ w⟩
    ·have h32 : ¬ ((s[k].toNat : Nat) : Int) < 32 := fun h => hbad (.inl h);have aG : ¬ ((s[k].toNat : Nat) : Int) = 127 := fun h => hbad (.inr h);have e3 : (((s[k].toNat : Nat) : Int) == 127) = false := (by rw [beq_eq_false_iff_ne]; exact aG);have hb : G2 s[k] = false := (by unfold G2; rw [decide_eq_false_iff_not]; omega);clear hbad;by_cases hq : ((s[k].toNat : Nat) : Int) = 34 ∨ ((s[k].toNat : Nat) : Int) = 92
     ·have Hs := Lq7 (aB.out hb ((o ++ ⟨#[92]⟩) ++ s.extract k (k + 1)) (by
       rw [Av, Av, aC.out];unfold esc1;rw [if_pos (by rw [aE.out, decide_eq_true_eq]; omega), if_neg (by intro h; rw [h] at h10; exact h10 rfl)];simp))
      have hos2 : (o ++ (⟨#[92]⟩ : ByteArray)).size = o.size + 1 := (by rw [ByteArray.size_append]; rfl);have hex : (s.extract k (k + 1)).size = 1 := by
       have : (s.extract k (k + 1)).data.toList.length = (s.extract k (k + 1)).size := rfl;rw [aC.out] at this;exact this.symm
      clear aB aC aE hb;by_cases aJ : ((s[k].toNat : Nat) : Int) = 34
      ·have e4 : (((s[k].toNat : Nat) : Int) == 34) = true := (by rw [beq_iff_eq]; exact aJ);clear aF aH Hk;go_wp2_with fail;go_round
       case rel => exact ⟨k + 1, _, by go_num, by omega, rfl, Hs.out.1, Hs.out.2⟩
       case measure => simp only [intOf]; omega
      ·have e4 : (((s[k].toNat : Nat) : Int) == 34) = false := (by rw [beq_eq_false_iff_ne]; exact aJ);have aM : ((s[k].toNat : Nat) : Int) = 92 := (by omega);have e5 : (((s[k].toNat : Nat) : Int) == 92) = true := (by rw [beq_iff_eq]; exact aM);clear aF aH Hk;go_wp2_with fail;go_round
       case rel => exact ⟨k + 1, _, by go_num, by omega, rfl, Hs.out.1, Hs.out.2⟩
       case measure => simp only [intOf]; omega
     ·have aJ : ¬ ((s[k].toNat : Nat) : Int) = 34 := fun h => hq (.inl h);have aM : ¬ ((s[k].toNat : Nat) : Int) = 92 := fun h => hq (.inr h);have e4 : (((s[k].toNat : Nat) : Int) == 34) = false := (by rw [beq_eq_false_iff_ne]; exact aJ);have e5 : (((s[k].toNat : Nat) : Int) == 92) = false := (by rw [beq_eq_false_iff_ne]; exact aM);have Hs := Lq7 (aB.out hb (o ++ s.extract k (k + 1)) (by
       rw [Av, aC.out];unfold esc1;rw [if_neg (by rw [aE.out, decide_eq_true_eq]; omega)]))
      have hex : (s.extract k (k + 1)).size = 1 := by
       have : (s.extract k (k + 1)).data.toList.length = (s.extract k (k + 1)).size := rfl;rw [aC.out] at this;exact this.symm
      clear aB aC aE hb hq;clear aF aH Hk;go_wp2_with fail;go_round
      case rel => exact ⟨k + 1, _, by go_num, by omega, rfl, Hs.out.1, Hs.out.2⟩
      case measure => simp only [intOf]; omega
  ·have aN : s.data.toList.take k = s.data.toList := ltL (by rw [Af]; omega);rw [aN] at ho aI;have Hq := Lq7 (Q0 aI.out);clear aN aI;go_wp2_with fail;go_ret;exact ⟨_, rfl, by rw [Hq.out, Av, ho.out], Below.refl _ w⟩
end Go.Proofs.YtcofbdjakicojaaGreatDoor
