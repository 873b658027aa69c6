/-
  What the plain host answers to any call, in plain words; its method Call answers so.
  The walks of the document's str and kind's easy part, and of kinds.
  Plain law: what the plain host answers, by the rows of kinds that the document tells; short values have short texts. No program in sight.
  The walk of the document's kind: is a value of a sign's kind?
  Plain law: what the plain host answers is small; its errors have a number. No program in sight.
-/
import Derived.Test.YtcofbdjakicojaaGreatDoorPlainC
import Derived.Test.YtcofbdjakicojaaGreatDoorPlainE
import Derived.Test.YtcofbdjakicojaaGreatDoorMRefBulk
import Derived.Test.YtcofbdjakicojaaGreatDoorMTexts11
import Derived.Test.YtcofbdjakicojaaGreatDoorMGreatX
namespace Go.Proofs.YtcofbdjakicojaaGreatDoor
open Go Go.RowKit Go.Maps Go.WideMaps
open List renaming mem_of_getElem? → lgM, length_take → lnT
open Nat renaming zero_le → nlz, le_trans → nlt
set_option maxRecDepth 100000
set_option maxHeartbeats 16000000
def Bz (n : Nat) (f : List Vl → Except Int Vl) (l : List (ByteArray × Vl)) : Except Int Vl := if l.all (fun q => q.1.size == 0) = true ∧ l.length = n then f (l.map (·.2)) else .error 1
def one (f : Vl → Except Int Vl) : List Vl → Except Int Vl | [v] => f v | _ => .error 1
def two (f : Vl → Vl → Except Int Vl) : List Vl → Except Int Vl | [u, v] => f u v | _ => .error 1
def bLen : List UInt8 := [108, 101, 110]
def bJoin : List UInt8 := [106, 111, 105, 110]
def bLines : List UInt8 := [108, 105, 110, 101, 115]
def bSorted : List UInt8 := [115, 111, 114, 116, 101, 100]
def bStr : List UInt8 := [115, 116, 114]
def bReplace : List UInt8 := [114, 101, 112, 108, 97, 99, 101]
def bStem : List UInt8 := [115, 116, 101, 109]
def bExt : List UInt8 := [101, 120, 116]
def bBase : List UInt8 := [98, 97, 115, 101]
def plainL (nm : List UInt8) (l : List (ByteArray × Vl)) : Except Int Vl :=
 if nm = bLen then Bz 1 (one B7) l
 else if nm = bJoin then Bz 2 (two joinL) l
 else if nm = bLines then Bz 1 (one linesL) l
 else if nm = bSorted then Bz 1 (one sortedL) l
 else if nm = bStr then Bz 1 (one Gq) l
 else if nm = bReplace then Bz 3 Du l
 else if nm = bStem then Bz 1 (one (Bi Cf)) l
 else if nm = bExt then Bz 1 (one (Bi extOf)) l
 else if nm = bBase then Bz 1 (one (Bi baseOf)) l
 else .error 7
theorem Bu {n : Nat} {f : List Vl → Except Int Vl} {l : List (ByteArray × Vl)} (h : ∃ q ∈ l, ¬ q.1.size = 0) : Bz n f l = .error 1 := by
 unfold Bz;rw [if_neg];rintro ⟨h1, -⟩;obtain ⟨q, hq, hs⟩ := h;rw [List.all_eq_true] at h1;exact hs (by simpa using h1 q hq)
theorem Bv {n : Nat} {f : List Vl → Except Int Vl} {l : List (ByteArray × Vl)} (h : ¬ (l.length : Int) = (n : Int)) : Bz n f l = .error 1 := by
 unfold Bz;rw [if_neg];rintro ⟨-, h1⟩;omega
theorem A0 {n : Nat} {f : List Vl → Except Int Vl} {l : List (ByteArray × Vl)} (h1 : ∀ q ∈ l, q.1.size = 0) (h2 : (l.length : Int) = (n : Int)) : Bz n f l = f (l.map (·.2)) := by
 unfold Bz;rw [if_pos ⟨by rw [List.all_eq_true]; intro q hq; simpa using h1 q hq, by omega⟩]
theorem Dm {name : ByteArray} (hs : name.size ≤ maxLen) {W : World} {mb b1 b2 b3 : Nat} (h : Bc W mb (A2 b1 b2 b3)) {v : Value} (h1 : (.string name, v) ∈ A2 b1 b2 b3) (h2 : ∀ u, (.string name, u) ∈ A2 b1 b2 b3 → u = v) :
  (Instr.lookup 255 (.map (some mb)) (.string name) true).run Tryz.prog W = .ok (.tuple #[v, .bool true]) W := by
 rcases h.look true (string_keyed Tryz.underlying9) Tryz.underlying255 (zeroDoes W) (callsKeys b1 b2 b3) (keyOf_string_mk Tryz.underlying9 hs) with ⟨h3, -⟩ | ⟨j, v, h3, h4⟩
 ·exact absurd rfl (h3 _ h1)
 ·obtain rfl := h2 v (lgM h3);exact h4
theorem U0 {name : ByteArray} (hs : name.size ≤ maxLen) {W : World} {mb b1 b2 b3 : Nat} (h : Bc W mb (A2 b1 b2 b3)) (h2 : ∀ u, (.string name, u) ∉ A2 b1 b2 b3) :
  (Instr.lookup 255 (.map (some mb)) (.string name) true).run Tryz.prog W = .ok (.tuple #[.agg #[.int .i64 0, .nilFunc], .bool false]) W := by
 rcases h.look true (string_keyed Tryz.underlying9) Tryz.underlying255 (zeroDoes W) (callsKeys b1 b2 b3) (keyOf_string_mk Tryz.underlying9 hs) with ⟨-, h4⟩ | ⟨j, v, h3, -⟩
 ·exact h4
 ·exact absurd (lgM h3) (h2 v)
theorem Dc {v : Vl} (h : checkV v = true) : v.str.size ≤ 65536 := by
 obtain ⟨k, n, s, l, ks⟩ := v;exact (En h).1
theorem Bw {l : List (ByteArray × Vl)} (h : (l.length : Int) = ((1 : Nat) : Int)) : ∃ q, l = [q] := List.length_eq_one_iff.1 (by omega)
theorem Sf {l : List (ByteArray × Vl)} (h : (l.length : Int) = ((2 : Nat) : Int)) : ∃ p q, l = [p, q] := by
 match l, h with
 | [p, q], _ => exact ⟨p, q, rfl⟩
theorem Qp {l : List (ByteArray × Vl)} (h : (l.length : Int) = ((3 : Nat) : Int)) : ∃ p q r, l = [p, q, r] := by
 match l, h with
 | [p, q, r], _ => exact ⟨p, q, r, rfl⟩
theorem I2 {W : World} {b g : Nat} {t : TypeId} (h : W.heap[b]? = some (.cells #[.func (.func g) #[] #[]] t (0, 0))) : W.cell? ⟨b, 0, none⟩ = some (.func (.func g) #[] #[]) := by
 unfold World.cell?;rw [h];rfl
theorem Lg (s : ByteArray) (h : s.size ≤ 65536) : (extOf s.data.toList).length ≤ 65536 := by
 have := baseOf_le s;unfold extOf extB;split
 ·rw [List.length_drop]; omega
 ·exact nlz _
theorem stem_len (s : ByteArray) (h : s.size ≤ 65536) : (Cf s.data.toList).length ≤ 65536 := by
 have := baseOf_le s;unfold Cf Lib.trimSuffix;split
 ·rw [lnT]; omega
 ·omega
theorem U1 (s : ByteArray) (w : World) (hs : s.size < 4294967281) : Calls Tryz.prog 234 #[.string s] w (Dp (baseOf s.data.toList) w) := Mb s w hs
theorem U2 (q : Ask) (F : Nat → Prop) (a : Option Addr) (cap : Nat) (w : World) (hr : Ac F w a (Aw q.args)) (hF : ∀ b, F b → b < w.heap.size) (hT : Dq w) (hB : StdB w) (hlen : q.args.length ≤ 1000000) (hs : q.name.size ≤ maxLen) (hc : ∀ x ∈ q.args, checkV x.2 = true) :
  Calls Tryz.prog 223 #[.agg #[], .agg #[.string q.name, .slice a q.args.length cap, .int .i64 q.ln, .int .i64 q.cl]] w (Bl (plainL q.name.data.toList q.args) w) := by
 obtain ⟨name, l, ln, cl⟩ := q;have aB : ∀ {z : List UInt8}, name.data.toList = z → name = ⟨z.toArray⟩ := fun h => bytes_ext (by rw [h]);show Calls Tryz.prog 223 #[.agg #[], .agg #[.string name, .slice a l.length cap, .int .i64 ln, .int .i64 cl]] w (Bl (plainL name.data.toList l) w);replace hc : ∀ x ∈ l, checkV x.2 = true := hc;replace hr : Ac F w a (Aw l) := hr;replace hs : name.size ≤ maxLen := hs;replace hlen : l.length ≤ 1000000 := hlen;unfold plainL;split
 ·rename_i h
  obtain rfl : name = ⟨#[108, 101, 110]⟩ := aB h;refine Ia 225 ⟨#[108, 101, 110]⟩ 1 l (fun W mb b1 b2 b3 hm => Dm hs hm (v := B3 1 225) (by simp [A2, callsHead, Cc]) (fun u hu => by simpa [A2, callsHead, Cc] using hu)) (fun args w => enters_of Tryz.func225 (by kernel_rfl) rfl args w) _ F a cap ln cl w hr hF hlen Bu (fun _ => Bv) (fun h1 h2 G a' cap' W hG hr' aC hb => ?_);rw [A0 h1 h2];obtain ⟨q, rfl⟩ := Bw h2;exact Qs G q.2 a' cap' W hr' (Bf (hc q (by simp))) (Dc (hc q (by simp)))
 ·rename_i h_bLen
  split
  ·rename_i h
   obtain rfl : name = ⟨#[106, 111, 105, 110]⟩ := aB h;refine Ia 226 ⟨#[106, 111, 105, 110]⟩ 2 l (fun W mb b1 b2 b3 hm => Dm hs hm (v := B3 2 226) (by simp [A2, callsHead, Cc]) (fun u hu => by simpa [A2, callsHead, Cc] using hu)) (fun args w => enters_of Tryz.func226 (by kernel_rfl) rfl args w) _ F a cap ln cl w hr hF hlen Bu (fun _ => Bv) (fun h1 h2 G a' cap' W hG hr' aC hb => ?_);rw [A0 h1 h2];obtain ⟨p, q, rfl⟩ := Sf h2;exact U6 G p.2 q.2 a' cap' W hG hr' (Bf (hc q (by simp))) (Dc (hc p (by simp)))
  ·rename_i h_bJoin
   split
   ·rename_i h
    obtain rfl : name = ⟨#[108, 105, 110, 101, 115]⟩ := aB h;refine Ia 227 ⟨#[108, 105, 110, 101, 115]⟩ 1 l (fun W mb b1 b2 b3 hm => Dm hs hm (v := B3 1 227) (by simp [A2, callsHead, Cc]) (fun u hu => by simpa [A2, callsHead, Cc] using hu)) (fun args w => enters_of Tryz.func227 (by kernel_rfl) rfl args w) _ F a cap ln cl w hr hF hlen Bu (fun _ => Bv) (fun h1 h2 G a' cap' W hG hr' aC hb => ?_);rw [A0 h1 h2];obtain ⟨q, rfl⟩ := Bw h2;exact Sj G q.2 a' cap' W hG hr' (Bf (hc q (by simp)))
   ·rename_i h_bLines
    split
    ·rename_i h
     obtain rfl : name = ⟨#[115, 111, 114, 116, 101, 100]⟩ := aB h;refine Ia 228 ⟨#[115, 111, 114, 116, 101, 100]⟩ 1 l (fun W mb b1 b2 b3 hm => Dm hs hm (v := B3 1 228) (by simp [A2, callsHead, Cc]) (fun u hu => by simpa [A2, callsHead, Cc] using hu)) (fun args w => enters_of Tryz.func228 (by kernel_rfl) rfl args w) _ F a cap ln cl w hr hF hlen Bu (fun _ => Bv) (fun h1 h2 G a' cap' W hG hr' aC hb => ?_);rw [A0 h1 h2];obtain ⟨q, rfl⟩ := Bw h2;exact Qr G q.2 a' cap' W hG hr' (Bf (hc q (by simp)))
    ·rename_i h_bSorted
     split
     ·rename_i h
      obtain rfl : name = ⟨#[115, 116, 114]⟩ := aB h;refine Ia 229 ⟨#[115, 116, 114]⟩ 1 l (fun W mb b1 b2 b3 hm => Dm hs hm (v := B3 1 229) (by simp [A2, callsHead, Cc]) (fun u hu => by simpa [A2, callsHead, Cc] using hu)) (fun args w => enters_of Tryz.func229 (by kernel_rfl) rfl args w) _ F a cap ln cl w hr hF hlen Bu (fun _ => Bv) (fun h1 h2 G a' cap' W hG hr' aC hb => ?_);rw [A0 h1 h2];obtain ⟨q, rfl⟩ := Bw h2;exact text_any G q.2 a' cap' W hG (hT.below hb) hr' (Bf (hc q (by simp)))
     ·rename_i h_bStr
      split
      ·rename_i h
       obtain rfl : name = ⟨#[114, 101, 112, 108, 97, 99, 101]⟩ := aB h;refine Ia 230 ⟨#[114, 101, 112, 108, 97, 99, 101]⟩ 3 l (fun W mb b1 b2 b3 hm => Dm hs hm (v := B3 3 230) (by simp [A2, callsHead, Cc]) (fun u hu => by simpa [A2, callsHead, Cc] using hu)) (fun args w => enters_of Tryz.func230 (by kernel_rfl) rfl args w) _ F a cap ln cl w hr hF hlen Bu (fun _ => Bv) (fun h1 h2 G a' cap' W hG hr' aC hb => ?_);rw [A0 h1 h2];obtain ⟨p, q, r, rfl⟩ := Qp h2;exact M6 G p.2 q.2 r.2 a' cap' W (hB.below hb) hr' (Dc (hc p (by simp))) (Dc (hc q (by simp))) (Dc (hc r (by simp)))
      ·rename_i h_bReplace
       split
       ·rename_i h
        obtain rfl : name = ⟨#[115, 116, 101, 109]⟩ := aB h;refine J7 (fun b1 b2 b3 => b1) 232 (fun W b1 b2 b3 h => I2 h.1) ⟨#[115, 116, 101, 109]⟩ 1 l (fun W mb b1 b2 b3 hm => Dm hs hm (v := Gm b1) (by simp [A2, callsHead, Cc]) (fun u hu => by simpa [A2, callsHead, Cc] using hu)) _ F a cap ln cl w hr hF hlen Bu (fun _ => Bv) (fun h1 h2 G a' cap' W hG hr' aC bq aE => ?_);rw [A0 h1 h2];obtain ⟨q, rfl⟩ := Bw h2;exact O2 232 Cf (fun s w h => stem_any s w h) (fun s h => stem_len s h) (fun args w => enters_of Tryz.func232 (by kernel_rfl) rfl args w) G q.2 a' cap' bq W aE hr' (Dc (hc q (by simp)))
       ·rename_i h_bStem
        split
        ·rename_i h
         obtain rfl : name = ⟨#[101, 120, 116]⟩ := aB h;refine J7 (fun b1 b2 b3 => b2) 235 (fun W b1 b2 b3 h => I2 h.2.1) ⟨#[101, 120, 116]⟩ 1 l (fun W mb b1 b2 b3 hm => Dm hs hm (v := Gm b2) (by simp [A2, callsHead, Cc]) (fun u hu => by simpa [A2, callsHead, Cc] using hu)) _ F a cap ln cl w hr hF hlen Bu (fun _ => Bv) (fun h1 h2 G a' cap' W hG hr' aC bq aE => ?_);rw [A0 h1 h2];obtain ⟨q, rfl⟩ := Bw h2;exact O2 235 extOf (fun s w h => Te s w h) (fun s h => Lg s h) (fun args w => enters_of Tryz.func235 (by kernel_rfl) rfl args w) G q.2 a' cap' bq W aE hr' (Dc (hc q (by simp)))
        ·rename_i h_bExt
         split
         ·rename_i h
          obtain rfl : name = ⟨#[98, 97, 115, 101]⟩ := aB h;refine J7 (fun b1 b2 b3 => b3) 234 (fun W b1 b2 b3 h => I2 h.2.2) ⟨#[98, 97, 115, 101]⟩ 1 l (fun W mb b1 b2 b3 hm => Dm hs hm (v := Gm b3) (by simp [A2, callsHead, Cc]) (fun u hu => by simpa [A2, callsHead, Cc] using hu)) _ F a cap ln cl w hr hF hlen Bu (fun _ => Bv) (fun h1 h2 G a' cap' W hG hr' aC bq aE => ?_);rw [A0 h1 h2];obtain ⟨q, rfl⟩ := Bw h2;exact O2 234 baseOf (fun s w h => U1 s w h) (fun s h => nlt (baseOf_le s) h) (fun args w => enters_of Tryz.func234 (by kernel_rfl) rfl args w) G q.2 a' cap' bq W aE hr' (Dc (hc q (by simp)))
         ·rename_i h_bBase
          refine U3 name 0 l (fun W mb b1 b2 b3 hm => U0 hs hm (fun u hu => ?_)) F a cap ln cl w hr hF hlen;simp only [A2, callsHead, Cc, List.cons_append, List.nil_append, List.mem_cons, List.not_mem_nil, or_false, Prod.mk.injEq, Value.string.injEq] at hu;rcases hu with ⟨e, -⟩ | ⟨e, -⟩ | ⟨e, -⟩ | ⟨e, -⟩ | ⟨e, -⟩ | ⟨e, -⟩ | ⟨e, -⟩ | ⟨e, -⟩ | ⟨e, -⟩
          ·exact h_bLen (by rw [e]; rfl)
          ·exact h_bJoin (by rw [e]; rfl)
          ·exact h_bLines (by rw [e]; rfl)
          ·exact h_bSorted (by rw [e]; rfl)
          ·exact h_bStr (by rw [e]; rfl)
          ·exact h_bReplace (by rw [e]; rfl)
          ·exact h_bStem (by rw [e]; rfl)
          ·exact h_bExt (by rw [e]; rfl)
          ·exact h_bBase (by rw [e]; rfl)
end Go.Proofs.YtcofbdjakicojaaGreatDoor
namespace Go.Proofs.YtcofbdjakicojaaGreatDoor
open Go Go.RowKit
open List renaming getElem?_eq_getElem → lgE, mem_of_getElem? → lgM, length_cons → lnC, length_map → lnM, mem_cons_self → lmS, mem_cons_of_mem → lmO
open Nat renaming le_refl → nlr, zero_le → nlz
open Go.Lib renaming hid → Lq7, toList_data → Lq8
set_option maxRecDepth 100000
set_option maxHeartbeats 16000000
theorem Cv (s : ByteArray) (w : World) (hs : s.size ≤ 9223372036854775807) : Calls Tryz.prog 27 #[.string s] w (Bl (Am s) w) := by
 by_cases hl : 65536 < s.size
 ·have Hr : Hid (Am s = .error 6) := Lq7 (by unfold Am; rw [if_pos hl]);have hl' : (65536 : Int) < s.size := (by omega);go_enter Tryz.func27, Tryz.ntmps27;go_wp2_with fail;refine bodyPost_ret (v := .tuple #[zeroV, .int .i64 6]) (by simp [zeroV, results, Tryz.results27, go_sem]) rfl ?_;rw [Hr.out];exact ⟨((Below.refl _ w).alloc (nlr _) _), rfl⟩
 ·have Hr : Hid (Am s = .ok (Dr s)) := Lq7 (by unfold Am; rw [if_neg hl]);have hl' : ¬ (65536 : Int) < s.size := (by omega);go_enter Tryz.func27, Tryz.ntmps27;go_wp2_with fail;refine bodyPost_ret (v := .tuple #[strC s, .int .i64 0]) (by simp [strC, results, Tryz.results27, go_sem]) rfl ?_;rw [Hr.out];exact ⟨((Below.refl _ w).alloc (nlr _) _), _, rfl, Ah.str _ _ s⟩
def kindsL (nm : List UInt8) : Option (List UInt8) :=
 if nm = bLen then some [108] else if nm = bJoin then some [115, 116] else if nm = bLines then some [116] else if nm = bSorted then some [116] else if nm = bStr then some [120]
 else if nm = bReplace then some [115, 115, 115] else if nm = bStem then some [115] else if nm = bExt then some [115] else if nm = bBase then some [115] else none
def namesK : List ByteArray := [⟨#[108, 101, 110]⟩, ⟨#[106, 111, 105, 110]⟩, ⟨#[108, 105, 110, 101, 115]⟩, ⟨#[115, 111, 114, 116, 101, 100]⟩, ⟨#[115, 116, 114]⟩, ⟨#[114, 101, 112, 108, 97, 99, 101]⟩, ⟨#[115, 116, 101, 109]⟩, ⟨#[101, 120, 116]⟩, ⟨#[98, 97, 115, 101]⟩]
def rowsK : List ByteArray := [⟨#[108]⟩, ⟨#[115, 116]⟩, ⟨#[116]⟩, ⟨#[116]⟩, ⟨#[120]⟩, ⟨#[115, 115, 115]⟩, ⟨#[115]⟩, ⟨#[115]⟩, ⟨#[115]⟩]
def Sv (r : Option (List UInt8)) (w : World) (e : Ending) (w' : World) : Prop := Below w.heap.size w w' ∧ match r with
 | some z => e = .returned (.tuple #[.string ⟨z.toArray⟩, .bool true])
 | none => e = .returned (.tuple #[.string ⟨#[]⟩, .bool false])
theorem kinds_at : ∀ (j : Nat) (h : j < 9), kindsL (namesK[j]'h).data.toList = some (rowsK[j]'h).data.toList
 | 0, _ => rfl
 | 1, _ => rfl
 | 2, _ => rfl
 | 3, _ => rfl
 | 4, _ => rfl
 | 5, _ => rfl
 | 6, _ => rfl
 | 7, _ => rfl
 | 8, _ => rfl
theorem Sw {nm : ByteArray} (h : ∀ x ∈ namesK, x.data.toList ≠ nm.data.toList) : kindsL nm.data.toList = none := by
 unfold kindsL;rw [if_neg (fun e => h ⟨#[108, 101, 110]⟩ (by simp [namesK]) e.symm), if_neg (fun e => h ⟨#[106, 111, 105, 110]⟩ (by simp [namesK]) e.symm), if_neg (fun e => h ⟨#[108, 105, 110, 101, 115]⟩ (by simp [namesK]) e.symm), if_neg (fun e => h ⟨#[115, 111, 114, 116, 101, 100]⟩ (by simp [namesK]) e.symm),
  if_neg (fun e => h ⟨#[115, 116, 114]⟩ (by simp [namesK]) e.symm), if_neg (fun e => h ⟨#[114, 101, 112, 108, 97, 99, 101]⟩ (by simp [namesK]) e.symm), if_neg (fun e => h ⟨#[115, 116, 101, 109]⟩ (by simp [namesK]) e.symm), if_neg (fun e => h ⟨#[101, 120, 116]⟩ (by simp [namesK]) e.symm), if_neg (fun e => h ⟨#[98, 97, 115, 101]⟩ (by simp [namesK]) e.symm)]
theorem Q2 (w : World) (l : List ByteArray) (t : TypeId) : Ax (w.alloc (.cells (l.map Value.string).toArray t)) (some ⟨w.heap.size, 0, none⟩) l := by
 intro j x hj;refine ⟨w.heap.size, 0, rfl, ?_⟩;unfold World.cell?;rw [heap_alloc_new];simp [hj]
theorem O9 (nm : ByteArray) (w : World) : Calls Tryz.prog 24 #[.string nm] w (Sv (kindsL nm.data.toList) w) := by
 have h1 := Q2 w namesK 9;have h2 := Q2 (w.alloc (.cells (namesK.map Value.string).toArray 9)) rowsK 9;have aC : Below w.heap.size w (w.alloc (.cells (namesK.map Value.string).toArray 9)) := (Below.refl _ w).alloc (nlr _) _;have aE : Below (w.alloc (.cells (namesK.map Value.string).toArray 9)).heap.size (w.alloc (.cells (namesK.map Value.string).toArray 9)) ((w.alloc (.cells (namesK.map Value.string).toArray 9)).alloc (.cells (rowsK.map Value.string).toArray 9)) := (Below.refl _ _).alloc (nlr _) _;have H1 := Lq7 (h1.below aE);have H2 := Lq7 h2;have HB := Lq7 (aC.trans (aE.mono aC.size));rw [show (w.alloc (.cells (namesK.map Value.string).toArray 9)).heap.size = w.heap.size + 1 by simp] at H2;clear h1 h2 aC aE;unfold namesK rowsK at H1 H2 HB;simp only [List.map_cons, List.map_nil] at H1 H2 HB;go_enter Tryz.func24, Tryz.ntmps24;go_wp2_with fail;generalize World.alloc _ _ = W at H1 H2 HB ⊢;have H1 : Hid (Ax W (some ⟨w.heap.size, 0, none⟩) namesK) := H1;have H2 : Hid (Ax W (some ⟨w.heap.size + 1, 0, none⟩) rowsK) := H2
 go_loop [12] (fun i => ∃ j : Nat, i = .int .i64 j ∧ j ≤ 9 ∧ Hid (∀ m (h : m < 9), m < j → (namesK[m]'h).data.toList ≠ nm.data.toList)) (fun i => 9 - (intOf i).toNat)
 case atStart => exact ⟨0, rfl, nlz _, Lq7 (fun m _ h => by omega)⟩
 case round =>
  obtain ⟨j, rfl, hj, aB⟩ := hrel;by_cases hlt : j < 9
  ·obtain ⟨b1, o1, ha1, aF⟩ := H1.out j (namesK[j]'hlt) (lgE hlt);obtain ⟨b2, o2, ha2, aI⟩ := H2.out j (rowsK[j]'hlt) (lgE hlt);cases ha1;cases ha2;rw [Nat.zero_add] at aF aI;by_cases heq : (namesK[j]'hlt).data.toList = nm.data.toList
   ·have Hk : Hid (kindsL nm.data.toList = some (rowsK[j]'hlt).data.toList) := Lq7 (by rw [← heq]; exact kinds_at j hlt);generalize (namesK[j]'hlt) = x at aF heq;generalize (rowsK[j]'hlt) = y at aI Hk;have aG : (x.data.toList == nm.data.toList) = true := (by rw [beq_iff_eq]; exact heq);have he2 : (x.toList == nm.toList) = true := (by rw [Lq8, Lq8]; exact aG);clear aB heq;go_wp2_with fail;refine bodyPost_ret (v := .tuple #[.string y, .bool true]) (by simp [results, Tryz.results24, go_sem]) rfl ?_;unfold Sv;rw [Hk.out];exact ⟨HB.out, rfl⟩
   ·have aH : Hid (∀ m (h : m < 9), m < j + 1 → (namesK[m]'h).data.toList ≠ nm.data.toList) := Lq7 (fun m h hm => by
     by_cases e : m = j
     ·subst e;exact heq
     ·exact aB.out m h (by omega))
    generalize (namesK[j]'hlt) = x at aF heq;have aG : (x.data.toList == nm.data.toList) = false := (by rw [beq_eq_false_iff_ne]; exact heq);have he2 : (x.toList == nm.toList) = false := (by rw [Lq8, Lq8]; exact aG);clear aB heq;go_wp2_with fail;go_round
    case rel => exact ⟨j + 1, by go_num, by omega, aH⟩
    case measure => simp only [intOf]; omega
  ·obtain rfl : j = 9 := (by omega);have Hk : Hid (kindsL nm.data.toList = none) := Lq7 (Sw (fun x hx => by
    obtain ⟨m, hm, rfl⟩ := List.mem_iff_getElem.1 hx;exact aB.out m hm hm))
   clear aB;go_wp2_with fail;refine bodyPost_ret (v := .tuple #[.string ⟨#[]⟩, .bool false]) (by simp [results, Tryz.results24, go_sem]) rfl ?_;unfold Sv;rw [Hk.out];exact ⟨HB.out, rfl⟩
def Cj (v : Vl) (c : UInt8) : Bool := if c = 115 then v.kind == 3 else if c = 108 then decide (3 ≤ v.kind) else if c = 116 then (textsL v).isSome else true
theorem kinds_row {nm row : List UInt8} (h : kindsL nm = some row) : (nm = bLen ∧ row = [108]) ∨ (nm = bJoin ∧ row = [115, 116]) ∨ (nm = bLines ∧ row = [116]) ∨ (nm = bSorted ∧ row = [116]) ∨ (nm = bStr ∧ row = [120]) ∨ (nm = bReplace ∧ row = [115, 115, 115]) ∨
  (nm = bStem ∧ row = [115]) ∨ (nm = bExt ∧ row = [115]) ∨ (nm = bBase ∧ row = [115]) := by
 unfold kindsL at h;by_cases h1 : nm = bLen
 ·rw [if_pos h1] at h; cases h; exact .inl ⟨h1, rfl⟩
 rw [if_neg h1] at h;by_cases h2 : nm = bJoin
 ·rw [if_pos h2] at h; cases h; exact .inr (.inl ⟨h2, rfl⟩)
 rw [if_neg h2] at h;by_cases h3 : nm = bLines
 ·rw [if_pos h3] at h; cases h; exact .inr (.inr (.inl ⟨h3, rfl⟩))
 rw [if_neg h3] at h;by_cases h4 : nm = bSorted
 ·rw [if_pos h4] at h; cases h; exact .inr (.inr (.inr (.inl ⟨h4, rfl⟩)))
 rw [if_neg h4] at h;by_cases h5 : nm = bStr
 ·rw [if_pos h5] at h; cases h; exact .inr (.inr (.inr (.inr (.inl ⟨h5, rfl⟩))))
 rw [if_neg h5] at h;by_cases h6 : nm = bReplace
 ·rw [if_pos h6] at h; cases h; exact .inr (.inr (.inr (.inr (.inr (.inl ⟨h6, rfl⟩)))))
 rw [if_neg h6] at h;by_cases h7 : nm = bStem
 ·rw [if_pos h7] at h; cases h; exact .inr (.inr (.inr (.inr (.inr (.inr (.inl ⟨h7, rfl⟩))))))
 rw [if_neg h7] at h;by_cases h8 : nm = bExt
 ·rw [if_pos h8] at h; cases h; exact .inr (.inr (.inr (.inr (.inr (.inr (.inr (.inl ⟨h8, rfl⟩)))))))
 rw [if_neg h8] at h;by_cases h9 : nm = bBase
 ·rw [if_pos h9] at h; cases h; exact .inr (.inr (.inr (.inr (.inr (.inr (.inr (.inr ⟨h9, rfl⟩)))))))
 rw [if_neg h9] at h;cases h
theorem T1 {nm : List UInt8} (h : kindsL nm = none) (l : List (ByteArray × Vl)) : plainL nm l = .error 7 := by
 unfold kindsL at h;unfold plainL;by_cases h1 : nm = bLen
 ·rw [if_pos h1] at h; cases h
 rw [if_neg h1] at h ⊢;by_cases h2 : nm = bJoin
 ·rw [if_pos h2] at h; cases h
 rw [if_neg h2] at h ⊢;by_cases h3 : nm = bLines
 ·rw [if_pos h3] at h; cases h
 rw [if_neg h3] at h ⊢;by_cases h4 : nm = bSorted
 ·rw [if_pos h4] at h; cases h
 rw [if_neg h4] at h ⊢;by_cases h5 : nm = bStr
 ·rw [if_pos h5] at h; cases h
 rw [if_neg h5] at h ⊢;by_cases h6 : nm = bReplace
 ·rw [if_pos h6] at h; cases h
 rw [if_neg h6] at h ⊢;by_cases h7 : nm = bStem
 ·rw [if_pos h7] at h; cases h
 rw [if_neg h7] at h ⊢;by_cases h8 : nm = bExt
 ·rw [if_pos h8] at h; cases h
 rw [if_neg h8] at h ⊢;by_cases h9 : nm = bBase
 ·rw [if_pos h9] at h; cases h
 rw [if_neg h9] at h ⊢
theorem Jp (l : List (ByteArray × Vl)) : plainL bLen l = Bz 1 (one B7) l := by unfold plainL; rw [if_pos rfl]
theorem Ip (l : List (ByteArray × Vl)) : plainL bJoin l = Bz 2 (two joinL) l := by unfold plainL; rw [if_neg (by decide), if_pos rfl]
theorem Gu (l : List (ByteArray × Vl)) : plainL bLines l = Bz 1 (one linesL) l := by unfold plainL; rw [if_neg (by decide), if_neg (by decide), if_pos rfl]
theorem F6 (l : List (ByteArray × Vl)) : plainL bSorted l = Bz 1 (one sortedL) l := by unfold plainL; rw [if_neg (by decide), if_neg (by decide), if_neg (by decide), if_pos rfl]
theorem Nh (l : List (ByteArray × Vl)) : plainL bStr l = Bz 1 (one Gq) l := by unfold plainL; rw [if_neg (by decide), if_neg (by decide), if_neg (by decide), if_neg (by decide), if_pos rfl]
theorem Fd (l : List (ByteArray × Vl)) : plainL bReplace l = Bz 3 Du l := by unfold plainL; rw [if_neg (by decide), if_neg (by decide), if_neg (by decide), if_neg (by decide), if_neg (by decide), if_pos rfl]
theorem Iq (l : List (ByteArray × Vl)) : plainL bStem l = Bz 1 (one (Bi Cf)) l := by unfold plainL; rw [if_neg (by decide), if_neg (by decide), if_neg (by decide), if_neg (by decide), if_neg (by decide), if_neg (by decide), if_pos rfl]
theorem Jq (l : List (ByteArray × Vl)) : plainL bExt l = Bz 1 (one (Bi extOf)) l := by unfold plainL; rw [if_neg (by decide), if_neg (by decide), if_neg (by decide), if_neg (by decide), if_neg (by decide), if_neg (by decide), if_neg (by decide), if_pos rfl]
theorem Ir (l : List (ByteArray × Vl)) : plainL bBase l = Bz 1 (one (Bi baseOf)) l := by unfold plainL; rw [if_neg (by decide), if_neg (by decide), if_neg (by decide), if_neg (by decide), if_neg (by decide), if_neg (by decide), if_neg (by decide), if_neg (by decide), if_pos rfl]
theorem Lr {nm row : List UInt8} (h : kindsL nm = some row) : ∃ f, ∀ l, plainL nm l = Bz row.length f l := by
 rcases kinds_row h with ⟨rfl, rfl⟩ | ⟨rfl, rfl⟩ | ⟨rfl, rfl⟩ | ⟨rfl, rfl⟩ | ⟨rfl, rfl⟩ | ⟨rfl, rfl⟩ | ⟨rfl, rfl⟩ | ⟨rfl, rfl⟩ | ⟨rfl, rfl⟩
 ·exact ⟨_, Jp⟩
 ·exact ⟨_, Ip⟩
 ·exact ⟨_, Gu⟩
 ·exact ⟨_, F6⟩
 ·exact ⟨_, Nh⟩
 ·exact ⟨_, Fd⟩
 ·exact ⟨_, Iq⟩
 ·exact ⟨_, Jq⟩
 ·exact ⟨_, Ir⟩
theorem Pp {nm row : List UInt8} (h : kindsL nm = some row) {l : List (ByteArray × Vl)} (hq : ∃ q ∈ l, ¬ q.1.size = 0) : plainL nm l = .error 1 := by
 obtain ⟨f, hf⟩ := Lr h;rw [hf, Bu hq]
theorem Pq {nm row : List UInt8} (h : kindsL nm = some row) {l : List (ByteArray × Vl)} (hq : ¬ l.length = row.length) : plainL nm l = .error 1 := by
 obtain ⟨f, hf⟩ := Lr h;rw [hf, Bv (by omega)]
theorem strs_bad {l : List Vl} (h : ∃ x ∈ l, ¬ x.kind = 3) : Jm l = none := by
 unfold Jm;rw [if_neg];intro h2;rw [List.all_eq_true] at h2;obtain ⟨x, hx, hk⟩ := h;exact hk (by simpa using h2 x hx)
theorem It {v : Vl} (h : Cj v 116 = false) : textsL v = none := by
 unfold Cj at h;rw [if_neg (by decide), if_neg (by decide), if_pos rfl] at h;cases ht : textsL v with
 | none => rfl
 | some t => rw [ht] at h; cases h
theorem Gv {v : Vl} (h : Cj v 115 = false) : ¬ v.kind = 3 := by
 unfold Cj at h;rw [if_pos rfl] at h
 simpa using h
theorem kind_lt {v : Vl} (h : Cj v 108 = false) : v.kind < 3 := by
 unfold Cj at h;rw [if_neg (by decide), if_pos rfl, decide_eq_false_iff_not] at h;omega
theorem Re {nm row : List UInt8} (h : kindsL nm = some row) {l : List (ByteArray × Vl)} (h0 : ∀ q ∈ l, q.1.size = 0) (hl : l.length = row.length) (hq : ∃ (j : Nat) (q : ByteArray × Vl) (c : UInt8), l[j]? = some q ∧ row[j]? = some c ∧ Cj q.2 c = false) : plainL nm l = .error 9 := by
 obtain ⟨j, q, c, hj, hc, hk⟩ := hq;rcases kinds_row h with ⟨rfl, rfl⟩ | ⟨rfl, rfl⟩ | ⟨rfl, rfl⟩ | ⟨rfl, rfl⟩ | ⟨rfl, rfl⟩ | ⟨rfl, rfl⟩ | ⟨rfl, rfl⟩ | ⟨rfl, rfl⟩ | ⟨rfl, rfl⟩
 ·rw [Jp, A0 h0 (by rw [hl]; rfl)];obtain ⟨p, rfl⟩ := Bw (show (l.length : Int) = ((1 : Nat) : Int) by rw [hl]; rfl);obtain rfl : j = 0 := (by have := (List.getElem?_eq_some_iff.1 hj).1; simpa using this);cases hj;cases hc;have hlt := kind_lt hk;show B7 q.2 = .error 9;unfold B7;rw [if_neg (by omega), if_neg (by omega)]
 ·rw [Ip, A0 h0 (by rw [hl]; rfl)];obtain ⟨p, r, rfl⟩ := Sf (show (l.length : Int) = ((2 : Nat) : Int) by rw [hl]; rfl);have hj2 : j = 0 ∨ j = 1 := (by have := (List.getElem?_eq_some_iff.1 hj).1; simp at this; omega);rcases hj2 with rfl | rfl
  ·cases hj;cases hc;show joinL q.2 r.2 = .error 9;unfold joinL;rw [if_pos (Gv hk)]
  ·cases hj;cases hc;show joinL p.2 q.2 = .error 9;unfold joinL;split
   ·rfl
   ·rw [It hk]
 ·rw [Gu, A0 h0 (by rw [hl]; rfl)];obtain ⟨p, rfl⟩ := Bw (show (l.length : Int) = ((1 : Nat) : Int) by rw [hl]; rfl);obtain rfl : j = 0 := (by have := (List.getElem?_eq_some_iff.1 hj).1; simpa using this);cases hj;cases hc;show linesL q.2 = .error 9;unfold linesL;rw [It hk]
 ·rw [F6, A0 h0 (by rw [hl]; rfl)];obtain ⟨p, rfl⟩ := Bw (show (l.length : Int) = ((1 : Nat) : Int) by rw [hl]; rfl);obtain rfl : j = 0 := (by have := (List.getElem?_eq_some_iff.1 hj).1; simpa using this);cases hj;cases hc;show sortedL q.2 = .error 9;unfold sortedL;rw [It hk]
 ·obtain ⟨p, rfl⟩ := Bw (show (l.length : Int) = ((1 : Nat) : Int) by rw [hl]; rfl);obtain rfl : j = 0 := (by have := (List.getElem?_eq_some_iff.1 hj).1; simpa using this);cases hj;cases hc;unfold Cj at hk;rw [if_neg (by decide), if_neg (by decide), if_neg (by decide)] at hk;cases hk
 ·rw [Fd, A0 h0 (by rw [hl]; rfl)];have hc3 : c = 115 := by
   have := lgM hc
   simpa using this
  subst hc3;unfold Du;rw [strs_bad ⟨q.2, List.mem_map_of_mem (lgM hj), Gv hk⟩]
 ·rw [Iq, A0 h0 (by rw [hl]; rfl)];obtain ⟨p, rfl⟩ := Bw (show (l.length : Int) = ((1 : Nat) : Int) by rw [hl]; rfl);obtain rfl : j = 0 := (by have := (List.getElem?_eq_some_iff.1 hj).1; simpa using this);cases hj;cases hc;show Bi Cf q.2 = .error 9;unfold Bi;rw [if_pos (Gv hk)]
 ·rw [Jq, A0 h0 (by rw [hl]; rfl)];obtain ⟨p, rfl⟩ := Bw (show (l.length : Int) = ((1 : Nat) : Int) by rw [hl]; rfl);obtain rfl : j = 0 := (by have := (List.getElem?_eq_some_iff.1 hj).1; simpa using this);cases hj;cases hc;show Bi extOf q.2 = .error 9;unfold Bi;rw [if_pos (Gv hk)]
 ·rw [Ir, A0 h0 (by rw [hl]; rfl)];obtain ⟨p, rfl⟩ := Bw (show (l.length : Int) = ((1 : Nat) : Int) by rw [hl]; rfl);obtain rfl : j = 0 := (by have := (List.getElem?_eq_some_iff.1 hj).1; simpa using this);cases hj;cases hc;show Bi baseOf q.2 = .error 9;unfold Bi;rw [if_pos (Gv hk)]
structure Bg (v : Vl) : Prop where
 ck : checkV v = true
 few : cntV v ≤ 60
 short : shortV v
theorem cntVs_len : ∀ l : List Vl, (l.length : Int) ≤ cntVs l
 | [] => by rw [cntVs]; simp
 | v :: t => by
  have h1 := Fj v;have h2 := cntVs_len t;rw [cntVs, lnC];omega
theorem Bg.str {v : Vl} (h : Bg v) : v.str.size ≤ 100 := by
 obtain ⟨k, n, s, l, ks⟩ := v;have := h.short;rw [shortV] at this;exact this.1
theorem Rf (c : Nat) : ∀ ts : List ByteArray, (∀ s ∈ ts, s.size ≤ c) → sumS ts ≤ c * ts.length
 | [], _ => by simp [sumS]
 | s :: t, h => by
  have h1 := Rf c t (fun x hx => h x (lmO _ hx));have h2 := h s (lmS ..);unfold sumS at h1 ⊢;rw [List.map_cons, List.sum_cons, lnC, Nat.mul_add];omega
theorem tot_sum : ∀ ts : List ByteArray, totL ts = sumS ts + ts.length
 | [] => rfl
 | s :: t => by
  have h := tot_sum t;unfold totL sumS at h ⊢;rw [List.map_cons, List.sum_cons, List.map_cons, List.sum_cons, lnC];omega
theorem Bg.texts {v : Vl} (h : Bg v) {ts : List ByteArray} (ht : textsL v = some ts) : ts.length ≤ 59 ∧ (∀ s ∈ ts, s.size ≤ 100) ∧ sumS ts ≤ 5900 ∧ totL ts ≤ 5959 := by
 obtain ⟨k, n, s, l, ks⟩ := v;have hs := h.short;have hc := h.few;rw [shortV] at hs;rw [cntV] at hc;have hcl := cntVs_len l;unfold textsL at ht;split at ht
 ·cases ht;have h1 : (l.map Vl.str).length ≤ 59 := (by rw [lnM]; omega);have h2 : ∀ s ∈ l.map Vl.str, s.size ≤ 100 := by
   intro s hs';obtain ⟨x, hx, rfl⟩ := List.mem_map.1 hs';have := shortVs_mem hs.2.2.2 hx;obtain ⟨xk, xn, xs, xl, xks⟩ := x;rw [shortV] at this;exact this.1
  have h3 := Rf 100 _ h2;have h4 := tot_sum (l.map Vl.str);exact ⟨h1, h2, by show sumS (l.map Vl.str) ≤ 5900; omega, by show totL (l.map Vl.str) ≤ 5959; omega⟩
 ·cases ht
theorem T2 {k n : Int} {s : ByteArray} {l : List Vl} {ks : List ByteArray} (h : nodeOk k n s l ks = true) : ks.length ≤ l.length := by
 rcases node_told h with ⟨-, -, -, -, rfl⟩ | ⟨-, -, -, -, rfl⟩ | ⟨-, -, -, rfl⟩ | ⟨-, -, -, -, rfl⟩ | ⟨-, -, -, -, rfl⟩ | ⟨-, -, -, hlk, -⟩
 ·exact nlz _
 ·exact nlz _
 ·exact nlz _
 ·exact nlz _
 ·exact nlz _
 ·omega
mutual
theorem S4 (v : Vl) (hn : nodesR v = true) (hs : shortV v) : (bulkV v : Int) ≤ 200 * cntV v - 100 := by
 obtain ⟨k, n, s, l, ks⟩ := v;rw [nodesR, Bool.and_eq_true] at hn;rw [shortV] at hs;rw [bulkV, cntV];have h1 := Pr l hn.1 hs.2.2.2;have h2 := Rf 100 ks hs.2.2.1;have h3 := T2 hn.2;have h4 := hs.1;omega
theorem Pr (l : List Vl) (hn : nodesRs l = true) (hs : shortVs l) : (bulkVs l : Int) ≤ 200 * cntVs l - 100 * l.length := by
 cases l with
 | nil => rw [bulkVs, cntVs]; simp
 | cons v t =>
  rw [nodesRs, Bool.and_eq_true] at hn;rw [shortVs] at hs;have h1 := S4 v hn.1 hs.1;have h2 := Pr t hn.2 hs.2;rw [bulkVs, cntVs, lnC];omega
end
theorem Bg.bulk {v : Vl} (h : Bg v) : bulkV v ≤ 65536 := by
 have h1 := S4 v (Et h.ck).2.2 h.short;have h2 := h.few;omega
theorem E0 (v : Vl) : Cj v 115 = (v.kind == 3) := by unfold Cj; rw [if_pos rfl]
theorem S6 (v : Vl) : Cj v 108 = decide (3 ≤ v.kind) := by unfold Cj; rw [if_neg (by decide), if_pos rfl]
theorem Le (v : Vl) : Cj v 116 = (textsL v).isSome := by unfold Cj; rw [if_neg (by decide), if_neg (by decide), if_pos rfl]
theorem kindB_x (v : Vl) : Cj v 120 = true := by unfold Cj; rw [if_neg (by decide), if_neg (by decide), if_neg (by decide)]
theorem kind_any (k n : Int) (s : ByteArray) (l : List Vl) (ks : List ByteArray) (c : UInt8) (hc : c = 115 ∨ c = 108 ∨ c = 116 ∨ c = 120) (hck : checkV (.mk k n s l ks) = true) (F : Nat → Prop) (a1 : Option Addr) (c1 : Nat) (a2 : Option Addr) (c2 : Nat) (w : World) (hr1 : Ac F w a1 (valsD l)) (hr2 : Ac F w a2 (Aq ks)) :
  Calls Tryz.prog 25 #[.agg #[.int .i64 k, .int .i64 n, .string s, .slice a1 l.length c1, .slice a2 ks.length c2], .int .u8 c.toNat] w (Dh (Cj (.mk k n s l ks) c) w) := by
 have aB : Below w.heap.size w (w.alloc (.cells #[.int .i64 k, .int .i64 n, .string s, .slice a1 l.length c1, .slice a2 ks.length c2] 31)) := (Below.refl _ w).alloc (nlr _) _;have H0 := Lq7 (And.intro (heap_alloc_new w (.cells #[.int .i64 k, .int .i64 n, .string s, .slice a1 l.length c1, .slice a2 ks.length c2] 31)) aB);have HT := Lq7 (Eh k n s l ks hck F a1 c1 a2 c2 _ (hr1.below aB) (hr2.below aB));clear aB hr1 hr2 hck;rcases hc with rfl | rfl | rfl | rfl
 ·rw [E0];clear HT;show Calls _ _ #[.agg #[.int .i64 k, .int .i64 n, .string s, .slice a1 l.length c1, .slice a2 ks.length c2], .int .u8 115] w (Dh (k == 3) w);go_enter Tryz.func25, Tryz.ntmps25;go_wp2_with fail;go_ret;exact ⟨rfl, H0.out.2⟩
 ·rw [S6];clear HT;show Calls _ _ #[.agg #[.int .i64 k, .int .i64 n, .string s, .slice a1 l.length c1, .slice a2 ks.length c2], .int .u8 108] w (Dh (decide (3 ≤ k)) w);go_enter Tryz.func25, Tryz.ntmps25;go_wp2_with fail;go_ret;exact ⟨rfl, H0.out.2⟩
 ·rw [Le];generalize textsL (.mk k n s l ks) = R at HT ⊢;show Calls _ _ #[.agg #[.int .i64 k, .int .i64 n, .string s, .slice a1 l.length c1, .slice a2 ks.length c2], .int .u8 116] w (Dh R.isSome w);go_enter Tryz.func25, Tryz.ntmps25;go_wp2_with fail;refine HT.out.mono ?_;rintro e w1 ⟨aC, hq⟩;have Hb := Lq7 (H0.out.2.trans (aC.mono H0.out.2.size));clear aC H0;cases R with
  | none =>
   obtain ⟨x, rfl⟩ := hq;go_wp2_with fail;go_ret;exact ⟨rfl, Hb.out⟩
  | some ts =>
   obtain ⟨x, rfl, -⟩ := hq;go_wp2_with fail;go_ret;exact ⟨rfl, Hb.out⟩
 ·rw [kindB_x];clear HT;show Calls _ _ #[.agg #[.int .i64 k, .int .i64 n, .string s, .slice a1 l.length c1, .slice a2 ks.length c2], .int .u8 120] w (Dh true w);go_enter Tryz.func25, Tryz.ntmps25;go_wp2_with fail;go_ret;exact ⟨rfl, H0.out.2⟩
def Ec (r : Except Int Vl) : Prop := match r with
 | .ok x => smallV x
 | .error y => y ≠ 0
theorem Ib (s : ByteArray) (h : s.size ≤ 9223372036854775807) : smallV (Dr s) := by
 unfold Dr;rw [smallV];exact ⟨⟨h, rfl⟩, nlz _, nlz _, fun s hs => (by cases hs), by simp [smallVs]⟩
theorem Ee (s : ByteArray) : Ec (Am s) := by
 unfold Am;split
 ·exact (by decide : (6 : Int) ≠ 0)
 ·exact Ib s (by omega)
theorem Nz (n : Nat) (h : n ≤ 9223372036854775807) : smallV (.mk 2 n ⟨#[]⟩ [] []) := by
 rw [smallV];refine ⟨⟨nlz _, ?_⟩, nlz _, nlz _, fun s hs => (by cases hs), by simp [smallVs]⟩;unfold inR;rw [Bool.and_eq_true, decide_eq_true_eq, decide_eq_true_eq];omega
theorem Qt {v : Vl} (h : checkV v = true) : Ec (B7 v) := by
 obtain ⟨k, n, s, l, ks⟩ := v;obtain ⟨h1, h2, -⟩ := En h;unfold B7;split
 ·exact Nz s.size (by omega)
 ·split
  ·exact Nz l.length (by omega)
  ·exact (by decide : (9 : Int) ≠ 0)
theorem small_strs : ∀ (l : List ByteArray), (∀ s ∈ l, s.size ≤ 9223372036854775807) → smallVs (strsV l)
 | [], _ => by simp [strsV, smallVs]
 | s :: t, h => by
  have := small_strs t (fun x hx => h x (lmO _ hx));unfold strsV at this ⊢;rw [List.map_cons, smallVs];exact ⟨Ib s (h s (lmS ..)), this⟩
theorem node_str {k n : Int} {s : ByteArray} {l : List Vl} {ks : List ByteArray} (h : nodeOk k n s l ks = true) : s.size ≤ 65536 := by
 rcases node_told h with ⟨-, -, rfl, -⟩ | ⟨-, -, rfl, -⟩ | ⟨-, rfl, -⟩ | ⟨-, -, h, -⟩ | ⟨-, -, rfl, -⟩ | ⟨-, -, rfl, -⟩
 ·exact nlz _
 ·exact nlz _
 ·exact nlz _
 ·exact h
 ·exact nlz _
 ·exact nlz _
theorem Qu (ts : List ByteArray) : (linesB ts).size = totL ts := Dv ts
theorem Qv {v : Vl} {ts : List ByteArray} (h : textsL v = some ts) : ts.length ≤ 1000 ∧ ∀ s ∈ ts, s.size ≤ 65536 := by
 obtain ⟨k, n, s, l, ks⟩ := v;unfold textsL at h;split at h
 ·rename_i hc
  cases h;refine ⟨by rw [lnM]; exact (En hc.2.1).2.1, fun s hs => ?_⟩;obtain ⟨x, hx, rfl⟩ := List.mem_map.1 hs;obtain ⟨xk, xn, xs, xl, xks⟩ := x;have h1 := (Et hc.2.1).2.2;rw [nodesR, Bool.and_eq_true] at h1;obtain ⟨j, hj⟩ := List.getElem?_of_mem hx;have h2 := Km h1.1 hj;rw [nodesR, Bool.and_eq_true] at h2;exact node_str h2.2
 ·cases h
theorem Qw (v : Vl) : Ec (sortedL v) := by
 unfold sortedL;cases h : textsL v with
 | none => exact (by decide : (9 : Int) ≠ 0)
 | some ts =>
  obtain ⟨h1, h2⟩ := Qv h;show smallV (.mk 4 0 ⟨#[]⟩ (strsV (sortL ts)) []);rw [smallV];refine ⟨⟨nlz _, rfl⟩, by unfold strsV; rw [lnM, J1]; omega, nlz _, fun s hs => (by cases hs), small_strs _ (fun s hs => ?_)⟩;obtain ⟨y, hy, he⟩ := Uj hs;have h3 := h2 y hy;have h4 := congrArg List.length he;rw [Af, Af] at h4;omega
theorem U7 (u v : Vl) : Ec (joinL u v) := by
 unfold joinL;split
 ·exact (by decide : (9 : Int) ≠ 0)
 ·cases h : textsL v with
  | none => exact (by decide : (9 : Int) ≠ 0)
  | some ts =>
   simp only;split
   ·exact (by decide : (6 : Int) ≠ 0)
   ·rename_i hle
    refine Ib _ ?_;rw [Iw];omega
theorem Sk (v : Vl) : Ec (linesL v) := by
 unfold linesL;cases h : textsL v with
 | none => exact (by decide : (9 : Int) ≠ 0)
 | some ts =>
  simp only;split
  ·exact (by decide : (6 : Int) ≠ 0)
  ·rename_i hle
   refine Ib _ ?_;rw [Qu];omega
theorem U8 (v : Vl) : Ec (Gq v) := by
 unfold Gq;split
 ·exact Ee _
 ·split
  ·exact (by decide : (6 : Int) ≠ 0)
  ·exact Ee _
theorem J8 (of : List UInt8 → List UInt8) (v : Vl) : Ec (Bi of v) := by
 unfold Bi;split
 ·exact (by decide : (9 : Int) ≠ 0)
 ·split
  ·exact (by decide : (1 : Int) ≠ 0)
  ·exact Ee _
theorem U9 (l : List Vl) : Ec (Du l) := by
 unfold Du;split
 ·unfold replaceL;split
  ·exact (by decide : (1 : Int) ≠ 0)
  ·split
   ·exact (by decide : (6 : Int) ≠ 0)
   ·exact Ee _
 ·exact (by decide : (9 : Int) ≠ 0)
theorem C1 {n : Nat} {f : List Vl → Except Int Vl} {l : List (ByteArray × Vl)} (h : Ec (f (l.map (·.2)))) : Ec (Bz n f l) := by
 unfold Bz;split
 ·exact h
 ·exact (by decide : (1 : Int) ≠ 0)
theorem Ew {f : Vl → Except Int Vl} {l : List Vl} (h : ∀ v ∈ l, Ec (f v)) : Ec (one f l) := by
 unfold one;split
 ·exact h _ (lmS ..)
 ·exact (by decide : (1 : Int) ≠ 0)
theorem good_two {f : Vl → Vl → Except Int Vl} {l : List Vl} (h : ∀ u v, Ec (f u v)) : Ec (two f l) := by
 unfold two;split
 ·exact h _ _
 ·exact (by decide : (1 : Int) ≠ 0)
theorem Sl (nm : List UInt8) (l : List (ByteArray × Vl)) (hc : ∀ x ∈ l, checkV x.2 = true) : Ec (plainL nm l) := by
 have hm : ∀ v ∈ l.map (·.2), checkV v = true := fun v hv => by
  obtain ⟨q, hq, rfl⟩ := List.mem_map.1 hv;exact hc q hq
 unfold plainL
 repeat' split
 ·exact C1 (Ew fun v hv => Qt (hm v hv))
 ·exact C1 (good_two fun u v => U7 u v)
 ·exact C1 (Ew fun v _ => Sk v)
 ·exact C1 (Ew fun v _ => Qw v)
 ·exact C1 (Ew fun v _ => U8 v)
 ·exact C1 (U9 _)
 ·exact C1 (Ew fun v _ => J8 _ v)
 ·exact C1 (Ew fun v _ => J8 _ v)
 ·exact C1 (Ew fun v _ => J8 _ v)
 ·exact (by decide : (7 : Int) ≠ 0)
end Go.Proofs.YtcofbdjakicojaaGreatDoor
