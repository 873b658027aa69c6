/-
  The walk of the plain host's lines, where the texts aren't too long together.
-/
import Derived.Test.YtmmflgbhgjefmaaGreatDoorJoin
import Derived.Test.YtmmflgbhgjefmaaGreatDoorBuilder
namespace Go.Proofs.YtmmflgbhgjefmaaGreatDoor
open Go Go.RowKit

def linesB (l : List ByteArray) : ByteArray := ⟨((l.map (fun s => s.data.toList ++ [10])).flatten).toArray⟩
def linesD (l : List ByteArray) : List UInt8 := (l.map (fun s => s.data.toList ++ [10])).flatten
theorem linesD_take (l : List ByteArray) (j : Nat) (h : j < l.length) : linesD (l.take (j + 1)) = linesD (l.take j) ++ (l[j] ++ (⟨#[10]⟩ : ByteArray)).data.toList := by
  unfold linesD
  rw [List.take_add_one, List.getElem?_eq_getElem h, Option.toList_some, List.map_append, List.flatten_append]
  simp
theorem linesD_len (l : List ByteArray) : (linesD l).length = totL l := lines_len l
theorem totL_le (l : List ByteArray) (j : Nat) : totL (l.take j) ≤ totL l := by
  unfold totL
  conv => rhs; rw [← List.take_append_drop j l, List.map_append, List.sum_append]
  omega

set_option maxRecDepth 100000 in
set_option maxHeartbeats 2000000 in
theorem lines_fits (F : Nat → Prop) (n' : Int) (s' : ByteArray) (l : List Vl) (ks : List ByteArray) (ts : List ByteArray) (a : Option Addr) (cap : Nat) (w : World) (hF : ∀ b, F b → b < w.heap.size) (hr : RowAt F w a (valsD [.mk 4 n' s' l ks]))
    (hs : smallV (.mk 4 n' s' l ks)) (ht : textsL (.mk 4 n' s' l ks) = some ts) (hlen : ts.length ≤ 1000) (hfit : totL ts ≤ 65536) :
    Calls Tryz.prog 206 #[.slice a 1 cap] w (PCall (.ok (strVl (linesB ts))) w) := by
  obtain ⟨b, off, a3, c3, a4, c4, rfl, -, hbl, r0, r1, r2, r3, r4, hv1, hv2⟩ := hr.val (j := 0) rfl
  simp only [Nat.zero_mul, Nat.add_zero] at r0 r1 r2 r3 r4
  have hb0 : Below w.heap.size w (w.alloc (.cells #[.int .i64 0, .int .i64 0, .string ⟨#[]⟩, .slice none 0 0, .slice none 0 0] 31)) := (Below.refl _ w).alloc (Nat.le_refl _) _
  have Hc := Lib.hid (texts_any 4 n' s' l ks hs F a3 c3 a4 c4 _ (fun b hb => Nat.lt_of_lt_of_le (hF b hb) hb0.size) (hv1.below hb0) (hv2.below hb0))
  have Hb0 := Lib.hid (And.intro (heap_alloc_new w (.cells #[.int .i64 0, .int .i64 0, .string ⟨#[]⟩, .slice none 0 0, .slice none 0 0] 31)) hb0)
  have Ht := Lib.hid ht
  clear hv1 hv2 hb0 ht hr hF hs
  go_enter Tryz.func206, Tryz.ntmps206
  go_wp2_with fail
  refine Hc.out.mono ?_
  rintro e w1 ⟨hb1, hq⟩
  rw [Ht.out] at hq
  obtain ⟨x, rfl, hown⟩ := hq
  obtain ⟨aT, cT, rfl, hst, hcap⟩ := hown.strsAt
  have hbn : Below w1.heap.size w1 (w1.alloc (.cells #[.pointer none, .slice none 0 0] 230)) := (Below.refl _ w1).alloc (Nat.le_refl _) _
  have Hst := Lib.hid hst
  have Hbw := Lib.hid hbn
  have Hb01 := Lib.hid (And.intro (stays Hb0.out.1 hb1) (Hb0.out.2.trans (hb1.mono Hb0.out.2.size)))
  have Hbd := Lib.hid (Lib.fresh_isBuilder 230 5 w1)
  have hw1 : w.heap.size < w1.heap.size := here (stays Hb0.out.1 hb1)
  clear hst hb1 hown Hc Hb0 r0 r1 r2 r3 r4 hbn
  go_wp2_with fail
  generalize World.alloc _ _ = W at Hbd Hbw ⊢
  go_loopw [21] (fun i wr => ∃ j : Nat, i = .int .i64 j ∧ j ≤ ts.length ∧ Hid (Lib.IsBuilder 230 5 w1.heap.size w1.heap.size (Lib.byteCells (linesD (ts.take j))) wr) ∧ Hid (Below w1.heap.size w1 wr)) (fun i _ => ts.length - (intOf i).toNat)
  case atStart => exact ⟨0, rfl, Nat.zero_le _, Hbd, Hbw⟩
  case round =>
    obtain ⟨j, rfl, hj, hbd, hbw⟩ := hrel
    by_cases hlt : j < ts.length
    · obtain ⟨bK, oK, hak, hck⟩ := (Hst.out.below hbw.out) j _ (List.getElem?_eq_getElem hlt)
      subst hak
      have hs1 := totL_take ts j hlt
      have hs2 := totL_le ts (j + 1)
      have hs3 := linesD_take ts j hlt
      have hs4 := linesD_len (ts.take j)
      have hbl2 : (Lib.byteCells (linesD (ts.take j))).length = totL (ts.take j) := by rw [← hs4]; simp [Lib.byteCells]
      generalize ts[j] = x at hck hs1 hs3
      have hxs : (x ++ (⟨#[10]⟩ : ByteArray)).size = x.size + 1 := by rw [ByteArray.size_append]; rfl
      have Hc := Lib.hid (bld_write w1.heap.size w1.heap.size (Lib.byteCells (linesD (ts.take j))) (x ++ (⟨#[10]⟩ : ByteArray)) wr hbd.out (by rw [hbl2, hxs]; omega) hbw.out.size)
      have Hs3 := Lib.hid hs3
      have Hbw := Lib.hid hbw.out
      clear hs3 hbd hbw
      go_wp2_with fail
      refine Hc.out.mono ?_
      rintro e w2 ⟨rfl, hbd2, hbw2⟩
      have hbd3 : Lib.IsBuilder 230 5 w1.heap.size w1.heap.size (Lib.byteCells (linesD (ts.take (j + 1)))) w2 := by
        rw [Hs3.out, Lib.byteCells_append]
        exact .inr hbd2
      have Hbd3 := Lib.hid hbd3
      have Hbw2 := Lib.hid (Hbw.out.trans hbw2)
      have Hln := Lib.hid (Tryz.Builder_Len w1.heap.size w1.heap.size _ w2 hbd3)
      have hln3 : (Lib.byteCells (linesD (ts.take (j + 1)))).length = totL (ts.take (j + 1)) := by rw [← linesD_len]; simp [Lib.byteCells]
      rw [hln3] at Hln
      have hT : totL (ts.take (j + 1)) ≤ 65536 := by omega
      clear hbd2 hbw2 hbd3 Hc hln3 hck hs1 hs2 hs4 hbl2 hxs
      generalize totL (ts.take (j + 1)) = T at Hln hT
      go_wp2_with fail
      refine Hln.out.mono ?_
      rintro e w3 ⟨rfl, hw3⟩
      have hw3 := hw3.symm
      subst hw3
      have hng : ¬ (65536 : Int) < (T : Int) := by omega
      go_wp2_with fail
      go_roundw
      case rel => exact ⟨j + 1, by go_num, by omega, Hbd3, Hbw2⟩
      case measure => simp only [intOf]; omega
    · have hjl : ts.take j = ts := List.take_of_length_le (by omega)
      rw [hjl] at hbd
      have Hstr := Lib.hid (Tryz.Builder_String_any w1.heap.size w1.heap.size _ wr hbd.out hbw.out.size)
      have Hb2 := Lib.hid (And.intro (stays Hb01.out.1 hbw.out) (Hb01.out.2.trans (hbw.out.mono Hb01.out.2.size)))
      have hsz := hbw.out.size
      clear hbd hbw hjl
      go_wp2_with fail
      refine Hstr.out.mono ?_
      rintro e w2 ⟨rfl, hb2⟩
      have hb2' : Below w1.heap.size wr w2 := hb2
      have hlb : (⟨(linesD ts).toArray⟩ : ByteArray) = linesB ts := rfl
      rw [hlb]
      have hls : (linesB ts).size ≤ 65536 := by
        have := linesD_len ts
        show (linesD ts).toArray.size ≤ _
        rw [List.size_toArray, this]
        exact hfit
      have hll : limitedL (linesB ts) = .ok (strVl (linesB ts)) := by unfold limitedL; rw [if_neg (by omega)]
      have Hres2 : Hid (w2.heap[w.heap.size]? = some (.cells #[.int .i64 0, .int .i64 0, .string ⟨#[]⟩, .slice none 0 0, .slice none 0 0] 31 (0, 0))) := Lib.hid ((hb2'.block _ hw1).trans Hb2.out.1)
      have Hb02 : Hid (Below w.heap.size w w2) := Lib.hid (Hb2.out.2.trans (hb2'.mono (by omega)))
      clear hb2 hb2' hlb Hstr Hb2
      go_wp2_with fail
      refine (limited_any (linesB ts) _ (by omega)).mono ?_
      rw [hll]
      rintro e w3 ⟨hb3, cs, rfl, hag⟩
      obtain ⟨z1, f1, z2, f2, rfl, -, -⟩ := hag.val
      have Hres3 := Lib.hid (stays Hres2.out hb3)
      have Hb03 := Lib.hid (Hb02.out.trans (hb3.mono Hb02.out.size))
      clear hag hb3 Hres2 Hb02 hll
      obtain ⟨p0, p1, p2, p3, p4, p5, p6, p7, p8, p9, p10⟩ := five_facts Hres3.out
      go_wp2_with fail
      have hend := res_set (Nat.le_refl _) Hb03.out Hres3.out (.int .i64 3) (.int .i64 0) (.string (linesB ts)) (.slice z1 0 f1) (.slice z2 0 f2)
      generalize World.setCell _ _ _ = W9 at hend ⊢
      obtain ⟨p0, p1, p2, p3, p4, p5, p6, p7, p8, p9, p10⟩ := five_facts hend.1
      refine bodyPost_ret (v := .tuple #[.agg #[.int .i64 3, .int .i64 0, .string (linesB ts), .slice z1 0 f1, .slice z2 0 f2], .int .i64 0]) (by simp [results, Tryz.results206, go_sem, p0, p1, p2, p3, p4, p5]) rfl ?_
      exact ⟨hend.2, _, rfl, AggAt.val_mk (l := []) (ks := []) _ _ _ _ _ (RowAt.nil _) (RowAt.nil _)⟩
end Go.Proofs.YtmmflgbhgjefmaaGreatDoor
