import Derived.Test.YthknljeffpbbmaaGreatDoorMSame0
import Derived.Test.YthknljeffpbbmaaGreatDoorMGreat
import Derived.Test.YthknljeffpbbmaaGreatDoorMSame11
import Derived.Test.YthknljeffpbbmaaGreatDoorMHeldSkip
import Derived.Test.YthknljeffpbbmaaGreatDoorMEvQ
import Derived.Test.YthknljeffpbbmaaGreatDoorMBindFits
open List renaming getElem_toArray → lgA, getElem_cons_succ → lgS, getElem_cons_zero → lgZ, setIfInBounds_toArray → lsA, set_cons_zero → lsZ, set_cons_succ → lsS
namespace Go.Proofs.YthknljeffpbbmaaGreatDoor
open Go Go.RowKit

mutual
def cntV : Vl → Int | .mk _ _ _ l _ => 1 + cntVs l
def cntVs : List Vl → Int
  | [] => 0
  | v :: t => cntV v + cntVs t
end
mutual
def dpV : Vl → Int | .mk _ _ _ l _ => 1 + dpVs l
def dpVs : List Vl → Int
  | [] => 0
  | v :: t => max (dpV v) (dpVs t)
end
mutual
def manyR : Vl → Int → Int | .mk _ _ _ l _, m => manyRs l m 1
def manyRs : List Vl → Int → Int → Int
  | [], _, n => n
  | v :: t, m, n => if n ≤ m then manyRs t m (n + manyR v (m - n)) else n
end
mutual
def deepR : Vl → Int → Int | .mk _ _ _ l _, m => (if 0 < m then deepRs l m 0 else 0) + 1
def deepRs : List Vl → Int → Int → Int
  | [], _, n => n
  | v :: t, m, n => deepRs t m (if n < deepR v (m - 1) then deepR v (m - 1) else n)
end
mutual
def nodesR : Vl → Bool | .mk k n s l ks => nodesRs l && nodeOk k n s l ks
def nodesRs : List Vl → Bool
  | [] => true
  | v :: t => nodesR v && nodesRs t
end
def checkR (v : Vl) : Bool := decide (manyR v 20000 ≤ 20000) && decide (deepR v 60 ≤ 60) && nodesR v

mutual
theorem cntV_pos (v : Vl) : 1 ≤ cntV v := by
  obtain ⟨k, n, s, l, ks⟩ := v
  rw [cntV]
  have := cntVs_pos l
  omega
theorem cntVs_pos (l : List Vl) : 0 ≤ cntVs l := by
  cases l with
  | nil => rw [cntVs]; omega
  | cons v t =>
    rw [cntVs]
    have := cntV_pos v
    have := cntVs_pos t
    omega
end
mutual
theorem dpV_pos (v : Vl) : 1 ≤ dpV v := by
  obtain ⟨k, n, s, l, ks⟩ := v
  rw [dpV]
  have := dpVs_pos l
  omega
theorem dpVs_pos (l : List Vl) : 0 ≤ dpVs l := by
  cases l with
  | nil => rw [dpVs]; omega
  | cons v t =>
    rw [dpVs]
    have := dpVs_pos t
    omega
end
mutual
theorem manyR_eq (v : Vl) (m : Int) (h : cntV v ≤ m) : manyR v m = cntV v := by
  obtain ⟨k, n, s, l, ks⟩ := v
  rw [cntV] at h
  rw [manyR, cntV]
  exact manyRs_eq l m 1 h
theorem manyRs_eq (l : List Vl) (m n : Int) (h : n + cntVs l ≤ m) : manyRs l m n = n + cntVs l := by
  cases l with
  | nil => rw [manyRs, cntVs]; omega
  | cons v t =>
    rw [cntVs] at h
    have h1 := cntV_pos v
    have h2 := cntVs_pos t
    rw [manyRs, if_pos (by omega), manyR_eq v (m - n) (by omega), manyRs_eq t m _ (by omega), cntVs]
    omega
end
mutual
theorem deepR_le (v : Vl) (m : Int) : deepR v m ≤ dpV v := by
  obtain ⟨k, n, s, l, ks⟩ := v
  rw [deepR, dpV]
  have h := deepRs_le l m 0
  have hp := dpVs_pos l
  split <;> omega
theorem deepRs_le (l : List Vl) (m n : Int) : deepRs l m n ≤ max n (dpVs l) := by
  cases l with
  | nil => rw [deepRs]; omega
  | cons v t =>
    rw [deepRs, dpVs]
    have h1 := deepR_le v (m - 1)
    have h2 := deepRs_le t m (if n < deepR v (m - 1) then deepR v (m - 1) else n)
    split at h2
    · rw [if_pos (by assumption)]; omega
    · rw [if_neg (by assumption)]; omega
end
mutual
theorem mayV_told (v : Vl) (d m : Int) (h : (mayV v d m).1 = true) : (mayV v d m).2 = m - cntV v ∧ nodesR v = true ∧ d + dpV v ≤ 61 := by
  obtain ⟨k, n, s, l, ks⟩ := v
  rw [mayV] at h ⊢
  split at h
  · cases h
  · rename_i h1
    split at h
    · rename_i h2
      rw [if_neg h1, if_pos h2]
      obtain ⟨g1, g2, g3⟩ := mayVs_told l (d + 1) (m - 1) (by omega) h
      rw [cntV, nodesR, dpV]
      exact ⟨by omega, by rw [g2, h2]; rfl, by omega⟩
    · cases h
theorem mayVs_told (l : List Vl) (d m : Int) (hd : d ≤ 61) (h : (mayVs l d m).1 = true) : (mayVs l d m).2 = m - cntVs l ∧ nodesRs l = true ∧ d + dpVs l ≤ 61 := by
  cases l with
  | nil => rw [mayVs, cntVs, nodesRs, dpVs]; exact ⟨by simp, rfl, by omega⟩
  | cons v t =>
    rw [mayVs] at h ⊢
    split at h
    · rename_i h1
      rw [if_pos h1]
      obtain ⟨g1, g2, g3⟩ := mayV_told v d m h1
      obtain ⟨k1, k2, k3⟩ := mayVs_told t d _ hd h
      rw [cntVs, nodesRs, dpVs]
      exact ⟨by omega, by rw [g2, k2]; rfl, by omega⟩
    · cases h
end
theorem check_ref (v : Vl) (h : checkV v = true) : checkR v = true := by
  unfold checkV at h
  obtain ⟨h1, h2, h3⟩ := mayV_told v 1 20000 h
  have h4 := (mayV_left v 1 20000 (by omega)).2.2 h
  have hm := manyR_eq v 20000 (by omega)
  have hd := deepR_le v 60
  unfold checkR
  rw [h2, hm, Bool.and_true, Bool.and_eq_true, decide_eq_true_eq, decide_eq_true_eq]
  exact ⟨by omega, by omega⟩
end Go.Proofs.YthknljeffpbbmaaGreatDoor
namespace Go.Proofs.YthknljeffpbbmaaGreatDoor
open Go Go.RowKit

theorem cntVs_append : ∀ a b : List Vl, cntVs (a ++ b) = cntVs a + cntVs b
  | [], b => by rw [List.nil_append, cntVs]; omega
  | v :: t, b => by rw [List.cons_append, cntVs, cntVs, cntVs_append t b]; omega
theorem cntVs_take {l : List Vl} {j : Nat} {x : Vl} (h : l[j]? = some x) : cntVs (l.take (j + 1)) = cntVs (l.take j) + cntV x ∧ cntVs (l.take j) + cntV x ≤ cntVs l ∧ 0 ≤ cntVs (l.take j) := by
  have h1 : l.take (j + 1) = l.take j ++ [x] := by rw [List.take_add_one, h]; rfl
  have h2 : cntVs (l.take (j + 1)) = cntVs (l.take j) + cntV x := by rw [h1, cntVs_append, cntVs, cntVs]; omega
  have h3 : cntVs l = cntVs (l.take (j + 1)) + cntVs (l.drop (j + 1)) := by rw [← cntVs_append, List.take_append_drop]
  have h4 := cntVs_pos (l.drop (j + 1))
  exact ⟨h2, by omega, cntVs_pos _⟩
theorem dpVs_get {l : List Vl} {j : Nat} {x : Vl} (h : l[j]? = some x) : dpV x ≤ dpVs l := by
  induction l generalizing j with
  | nil => simp at h
  | cons v t ih =>
    rw [dpVs]
    cases j with
    | zero => simp at h; subst h; omega
    | succ j => have := ih (j := j) (by simpa using h); omega
theorem nodesRs_get {l : List Vl} {j : Nat} {x : Vl} (hl : nodesRs l = true) (h : l[j]? = some x) : nodesR x = true := by
  induction l generalizing j with
  | nil => simp at h
  | cons v t ih =>
    rw [nodesRs, Bool.and_eq_true] at hl
    cases j with
    | zero => simp at h; subst h; exact hl.1
    | succ j => exact ih (j := j) hl.2 (by simpa using h)

def ManyC (v : Vl) : Prop := ∀ (F : Nat → Prop) (a1 : Option Addr) (c1 : Nat) (a2 : Option Addr) (c2 : Nat) (m : Int) (w : World), RowAt F w a1 (valsD v.items) → RowAt F w a2 (strsD v.keys) → cntV v ≤ m → m ≤ 20000 →
  Calls Tryz.prog 56 #[.agg #[.int .i64 v.kind, .int .i64 v.num, .string v.str, .slice a1 v.items.length c1, .slice a2 v.keys.length c2], .int .i64 m] w (fun e w' => e = .returned (.int .i64 (cntV v)) ∧ Below w.heap.size w w')
set_option maxRecDepth 100000 in
set_option maxHeartbeats 2000000 in
theorem many_node (k n1 : Int) (s : ByteArray) (l : List Vl) (ks : List ByteArray) (hl : l.length ≤ 140737488355328) (hit : ∀ x ∈ l, ManyC x) (F : Nat → Prop) (a1 : Option Addr) (c1 : Nat) (a2 : Option Addr) (c2 : Nat) (m : Int) (w : World) (hr1 : RowAt F w a1 (valsD l)) (_hr2 : RowAt F w a2 (strsD ks)) (hm : 1 + cntVs l ≤ m) (hm2 : m ≤ 20000) :
    Calls Tryz.prog 56 #[.agg #[.int .i64 k, .int .i64 n1, .string s, .slice a1 l.length c1, .slice a2 ks.length c2], .int .i64 m] w (fun e w' => e = .returned (.int .i64 (1 + cntVs l)) ∧ Below w.heap.size w w') := by
  have hba : Below w.heap.size w (w.alloc (.cells #[.int .i64 k, .int .i64 n1, .string s, .slice a1 l.length c1, .slice a2 ks.length c2] 37)) := (Below.refl _ w).alloc (Nat.le_refl _) _
  have H0 := Lib.hid (And.intro (heap_alloc_new w (.cells #[.int .i64 k, .int .i64 n1, .string s, .slice a1 l.length c1, .slice a2 ks.length c2] 37)) hba)
  have Hr := Lib.hid hr1
  have Hit := Lib.hid hit
  clear hr1 _hr2 hit hba
  go_enter Tryz.func56, Tryz.ntmps56
  go_wp2_with fail
  generalize World.alloc _ _ = W0 at H0 ⊢
  go_loopw [5, 6] (fun n i wr => ∃ (N : Int) (j : Nat), n = .int .i64 N ∧ i = .int .i64 j ∧ j ≤ l.length ∧ Hid (N = 1 + cntVs (l.take j)) ∧ Hid (wr.heap[w.heap.size]? = some (.cells #[.int .i64 k, .int .i64 n1, .string s, .slice a1 l.length c1, .slice a2 ks.length c2] 37 (0, 0)) ∧ Below w.heap.size w wr)) (fun _ i _ => l.length - (intOf i).toNat)
  case atStart => exact ⟨1, 0, rfl, rfl, Nat.zero_le _, Lib.hid (by rw [List.take_zero, cntVs]; rfl), H0⟩
  case round =>
    obtain ⟨N, j, rfl, rfl, hj, hN, hst⟩ := hrel
    obtain ⟨q0, q1, q2, q3, q4, q5, -⟩ := five_facts hst.out.1
    by_cases hlt : j < l.length
    · have hx0 : l[j]? = some l[j] := List.getElem?_eq_getElem hlt
      generalize l[j] = x at hx0
      have HC := Lib.hid (Hit.out x (List.mem_of_getElem? hx0))
      obtain ⟨g1, g2, g3⟩ := cntVs_take hx0
      have g4 := cntV_pos x
      have hN' := hN.out
      have hle : N ≤ m := by omega
      have hN0 : 1 ≤ N := by omega
      have hNx : Hid (N + cntV x = 1 + cntVs (l.take (j + 1))) := Lib.hid (by omega)
      have hsum : N + cntV x ≤ 20000 := by omega
      have hfit : cntV x ≤ m - N := by omega
      have hcx : 1 ≤ cntV x := g4
      obtain ⟨xk, xn, xs, xl, xks⟩ := x
      obtain ⟨b, off, b1, e1, b2, e2, rfl, -, hbl, r0, r1, r2, r3, r4, hs1, hs2⟩ := (Hr.out.below hst.out.2).val hx0
      have HK := Lib.hid (HC.out F b1 e1 b2 e2 (m - N) wr hs1 hs2 hfit (by omega))
      generalize cntV (.mk xk xn xs xl xks) = cx at HK hNx hsum hcx
      clear hx0 HC hs1 hs2 hN hN' g1 g2 g3 g4 hfit hm
      go_wp2_with fail
      refine HK.out.mono ?_
      rintro e w2 ⟨rfl, hb2⟩
      have Hst2 := Lib.hid (And.intro (stays hst.out.1 hb2) (hst.out.2.trans (hb2.mono hst.out.2.size)))
      clear hb2 hst HK r0 r1 r2 r3 r4 q0 q1 q2 q3 q4 q5
      go_wp2_with fail
      go_roundw
      case rel => exact ⟨N + cx, j + 1, by go_num, by go_num, by omega, hNx, Hst2⟩
      case measure => simp only [intOf]; omega
    · have hN' := hN.out
      rw [List.take_of_length_le (by omega)] at hN'
      have HN := Lib.hid hN'
      clear hN hN'
      go_wp2_with fail
      go_ret
      exact ⟨congrArg (fun z => Ending.returned (Value.int .i64 z)) HN.out, hst.out.2⟩
theorem many_any (v : Vl) : smallV v → ManyC v :=
  Vl.rec (motive_1 := fun v => smallV v → ManyC v) (motive_2 := fun l => smallVs l → ∀ x ∈ l, ManyC x)
    (fun k n s l ks ih h F a1 c1 a2 c2 m w hr1 hr2 hm hm2 => by
      rw [smallV] at h
      have hc : cntV (.mk k n s l ks) = 1 + cntVs l := by rw [cntV]
      rw [hc] at hm ⊢
      exact many_node k n s l ks h.2.1 (ih h.2.2.2.2) F a1 c1 a2 c2 m w hr1 hr2 hm hm2)
    (fun _ x hx => by cases hx)
    (fun v t hv ht h x hx => by
      rw [smallVs] at h
      rcases List.mem_cons.1 hx with rfl | hx
      · exact hv h.1
      · exact ht h.2 x hx) v

def DeepC (v : Vl) : Prop := ∀ (F : Nat → Prop) (a1 : Option Addr) (c1 : Nat) (a2 : Option Addr) (c2 : Nat) (m : Int) (w : World), RowAt F w a1 (valsD v.items) → RowAt F w a2 (strsD v.keys) → dpV v ≤ 60 → 0 ≤ m → m ≤ 60 →
  Calls Tryz.prog 57 #[.agg #[.int .i64 v.kind, .int .i64 v.num, .string v.str, .slice a1 v.items.length c1, .slice a2 v.keys.length c2], .int .i64 m] w (fun e w' => (∃ d : Int, e = .returned (.int .i64 d) ∧ 0 ≤ d ∧ d ≤ dpV v) ∧ Below w.heap.size w w')
set_option maxRecDepth 100000 in
set_option maxHeartbeats 2000000 in
theorem deep_node (k n1 : Int) (s : ByteArray) (l : List Vl) (ks : List ByteArray) (hl : l.length ≤ 140737488355328) (hit : ∀ x ∈ l, DeepC x) (F : Nat → Prop) (a1 : Option Addr) (c1 : Nat) (a2 : Option Addr) (c2 : Nat) (m : Int) (w : World) (hr1 : RowAt F w a1 (valsD l)) (_hr2 : RowAt F w a2 (strsD ks)) (hd : 1 + dpVs l ≤ 60) (hm : 0 ≤ m) (hm2 : m ≤ 60) :
    Calls Tryz.prog 57 #[.agg #[.int .i64 k, .int .i64 n1, .string s, .slice a1 l.length c1, .slice a2 ks.length c2], .int .i64 m] w (fun e w' => (∃ d : Int, e = .returned (.int .i64 d) ∧ 0 ≤ d ∧ d ≤ 1 + dpVs l) ∧ Below w.heap.size w w') := by
  have hba : Below w.heap.size w (w.alloc (.cells #[.int .i64 k, .int .i64 n1, .string s, .slice a1 l.length c1, .slice a2 ks.length c2] 37)) := (Below.refl _ w).alloc (Nat.le_refl _) _
  have H0 := Lib.hid (And.intro (heap_alloc_new w (.cells #[.int .i64 k, .int .i64 n1, .string s, .slice a1 l.length c1, .slice a2 ks.length c2] 37)) hba)
  have Hr := Lib.hid hr1
  have Hit := Lib.hid hit
  have hdp := dpVs_pos l
  clear hr1 _hr2 hit hba
  by_cases hm0 : 0 < m
  case neg =>
    go_enter Tryz.func57, Tryz.ntmps57
    go_wp2_with fail
    go_ret
    exact ⟨⟨1, rfl, by omega, by omega⟩, H0.out.2⟩
  go_enter Tryz.func57, Tryz.ntmps57
  go_wp2_with fail
  generalize World.alloc _ _ = W0 at H0 ⊢
  go_loopw [5, 13] (fun n i wr => ∃ (N : Int) (j : Nat), n = .int .i64 N ∧ i = .int .i64 j ∧ j ≤ l.length ∧ (0 ≤ N ∧ N ≤ dpVs l) ∧ Hid (wr.heap[w.heap.size]? = some (.cells #[.int .i64 k, .int .i64 n1, .string s, .slice a1 l.length c1, .slice a2 ks.length c2] 37 (0, 0)) ∧ Below w.heap.size w wr)) (fun _ i _ => l.length - (intOf i).toNat)
  case atStart => exact ⟨0, 0, rfl, rfl, Nat.zero_le _, ⟨Int.le_refl _, hdp⟩, H0⟩
  case round =>
    obtain ⟨N, j, rfl, rfl, hj, ⟨hN0, hN1⟩, hst⟩ := hrel
    obtain ⟨q0, q1, q2, q3, q4, q5, -⟩ := five_facts hst.out.1
    by_cases hlt : j < l.length
    · have hx0 : l[j]? = some l[j] := List.getElem?_eq_getElem hlt
      generalize l[j] = x at hx0
      have HC := Lib.hid (Hit.out x (List.mem_of_getElem? hx0))
      have g1 := dpVs_get hx0
      obtain ⟨xk, xn, xs, xl, xks⟩ := x
      obtain ⟨b, off, b1, e1, b2, e2, rfl, -, hbl, r0, r1, r2, r3, r4, hs1, hs2⟩ := (Hr.out.below hst.out.2).val hx0
      have HK := Lib.hid (HC.out F b1 e1 b2 e2 (m - 1) wr hs1 hs2 (by omega) (by omega) (by omega))
      have G1 := Lib.hid g1
      clear hx0 HC hs1 hs2 g1
      go_wp2_with fail
      refine HK.out.mono ?_
      rintro e w2 ⟨⟨d, rfl, hd0, hd1⟩, hb2⟩
      have Hst2 := Lib.hid (And.intro (stays hst.out.1 hb2) (hst.out.2.trans (hb2.mono hst.out.2.size)))
      have hd2 : d ≤ dpVs l := by have := G1.out; omega
      clear hb2 hst HK r0 r1 r2 r3 r4 q0 q1 q2 q3 q4 q5 hd1 G1
      by_cases hdn : N < d
      · go_wp2_with fail
        go_roundw
        case rel => exact ⟨d, j + 1, rfl, by go_num, by omega, ⟨hd0, hd2⟩, Hst2⟩
        case measure => simp only [intOf]; omega
      · go_wp2_with fail
        go_roundw
        case rel => exact ⟨N, j + 1, rfl, by go_num, by omega, ⟨hN0, hN1⟩, Hst2⟩
        case measure => simp only [intOf]; omega
    · go_wp2_with fail
      go_ret
      exact ⟨⟨N + 1, by go_num, by omega, by omega⟩, hst.out.2⟩
theorem deep_any (v : Vl) : smallV v → DeepC v :=
  Vl.rec (motive_1 := fun v => smallV v → DeepC v) (motive_2 := fun l => smallVs l → ∀ x ∈ l, DeepC x)
    (fun k n s l ks ih h F a1 c1 a2 c2 m w hr1 hr2 hd hm hm2 => by
      rw [smallV] at h
      have hc : dpV (.mk k n s l ks) = 1 + dpVs l := by rw [dpV]
      rw [hc] at hd ⊢
      exact deep_node k n s l ks h.2.1 (ih h.2.2.2.2) F a1 c1 a2 c2 m w hr1 hr2 hd hm hm2)
    (fun _ x hx => by cases hx)
    (fun v t hv ht h x hx => by
      rw [smallVs] at h
      rcases List.mem_cons.1 hx with rfl | hx
      · exact hv h.1
      · exact ht h.2 x hx) v
end Go.Proofs.YthknljeffpbbmaaGreatDoor
namespace Go.Proofs.YthknljeffpbbmaaGreatDoor
open Go Go.RowKit

theorem rises_get {p : Option ByteArray} {l : List ByteArray} (h : risesGo p l = true) {j : Nat} {x : ByteArray} (hx : l[j]? = some x) : x.size ≤ 65536 ∧ ∀ (i : Nat) (y : ByteArray), j = i + 1 → l[i]? = some y → Op.bytesLess y.toList x.toList = true := by
  induction l generalizing p j with
  | nil => simp at hx
  | cons s t ih =>
    rw [risesGo_cons, Bool.and_eq_true, Bool.and_eq_true, decide_eq_true_eq] at h
    cases j with
    | zero => simp at hx; subst hx; exact ⟨h.1.1, fun i y hi => by omega⟩
    | succ j =>
      have hx' : t[j]? = some x := by simpa using hx
      obtain ⟨h1, h2⟩ := ih h.2 hx'
      refine ⟨h1, fun i y hi hy => ?_⟩
      cases i with
      | zero =>
        obtain rfl : j = 0 := by omega
        simp at hy
        subst hy
        cases t with
        | nil => simp at hx'
        | cons u t =>
          simp at hx'
          subst hx'
          have h3 := h.2
          rw [risesGo_cons, Bool.and_eq_true, Bool.and_eq_true] at h3
          exact h3.1.2
      | succ i => exact h2 i y (by omega) (by simpa using hy)
theorem less_not {x y : ByteArray} (h : Op.bytesLess y.toList x.toList = true) : Op.bytesLess x.toList y.toList = false ∧ ¬ x.toList = y.toList := by
  rw [Go.Proofs.bytesLess_eq, decide_eq_true_eq] at h
  refine ⟨?_, fun e => ?_⟩
  · rw [Go.Proofs.bytesLess_eq, decide_eq_false_iff_not]
    exact List.lt_asymm h
  · rw [e] at h
    exact List.lt_irrefl _ h
theorem empty_of {s : ByteArray} (h : s.toList.isEmpty = true) : s = ⟨#[]⟩ := by
  have h1 : s.toList = [] := by simpa using h
  rw [Lib.toList_data] at h1
  exact bytes_ext h1

set_option maxRecDepth 100000 in
set_option maxHeartbeats 4000000 in
theorem keys_any (k n1 : Int) (s : ByteArray) (l : List Vl) (ks : List ByteArray) (hlk : l.length = ks.length) (hri : risesL ks = true) (a1 : Option Addr) (c1 : Nat) (a2 : Option Addr) (c2 : Nat) (w : World) (hk : StrsAt w a2 ks) :
    Calls Tryz.prog 125 #[.agg #[.int .i64 k, .int .i64 n1, .string s, .slice a1 l.length c1, .slice a2 ks.length c2]] w (PYes w) := by
  rw [hlk]
  clear hlk
  unfold risesL at hri
  rw [Bool.and_eq_true, decide_eq_true_eq] at hri
  obtain ⟨hgo, hl⟩ := hri
  have hba : Below w.heap.size w (w.alloc (.cells #[.int .i64 k, .int .i64 n1, .string s, .slice a1 ks.length c1, .slice a2 ks.length c2] 37)) := (Below.refl _ w).alloc (Nat.le_refl _) _
  have H0 := Lib.hid (And.intro (heap_alloc_new w (.cells #[.int .i64 k, .int .i64 n1, .string s, .slice a1 ks.length c1, .slice a2 ks.length c2] 37)) hba)
  have Hk := Lib.hid hk
  have Hgo := Lib.hid hgo
  clear hk hba hgo
  go_enter Tryz.func125, Tryz.ntmps125
  go_wp2_with fail
  generalize World.alloc _ _ = W0 at H0 ⊢
  go_loopw [14] (fun i wr => ∃ j : Nat, i = .int .i64 j ∧ j ≤ ks.length ∧ Hid (wr.heap[w.heap.size]? = some (.cells #[.int .i64 k, .int .i64 n1, .string s, .slice a1 ks.length c1, .slice a2 ks.length c2] 37 (0, 0)) ∧ Below w.heap.size w wr)) (fun i _ => ks.length - (intOf i).toNat)
  case atStart => exact ⟨0, rfl, Nat.zero_le _, H0⟩
  case round =>
    obtain ⟨j, rfl, hj, hst⟩ := hrel
    obtain ⟨q0, q1, q2, q3, q4, q5, -⟩ := five_facts hst.out.1
    by_cases hlt : j < ks.length
    · have hbd : Below wr.heap.size wr wr.drew := (Below.refl _ wr).drew
      have H2 := Lib.hid (And.intro (stays hst.out.1 hbd) (hst.out.2.trans (hbd.mono hst.out.2.size)))
      cases j with
      | zero =>
        obtain ⟨b, off, hae, hc⟩ := (Hk.out.below H2.out.2).at hlt
        subst hae
        have hsz := (rises_get Hgo.out (List.getElem?_eq_getElem hlt)).1
        generalize ks[0] = x at hc hsz
        rw [Nat.add_zero] at hc
        have hbl := block_of_cell hc
        have hbig : ¬ (65536 : Int) < x.size := by omega
        clear hsz
        go_wp2_with fail
        refine wp_region_turns (.s 0 (.s 1 (.s 2 (.s 3 (.s 4 (.s 5 (.s 6 (.s 7 (.s 8 (.s 9 (.s 10 (.s 11 (.s 12 (.s 13 (.s 14 (.s 15 (.s 16 (.s 17 (.s 18 (.s 19 (.s 20 (.s 21 (.s 22 (.s 23 (.s 24 .nil))))))))))))))))))))))))) 99 (fun W' => Below wr.drew.heap.size wr.drew W') (by kernel_rfl) (by kernel_rfl) (fun c a d v w h => by cases d <;> exact h) (Below.refl _ _) ?_
        clear q0 q1 q2 q3 q4 q5 hst
        generalize wr.drew = Wd at *
        refine turn_steady (.pointer (some ⟨w.heap.size, 4, none⟩)) rfl rfl (fun W' hS => ?_) ?_
        · obtain ⟨z0, z1, z2, z3, z4, z5, -⟩ := five_facts (stays H2.out.1 hS)
          clear hS
          go_simp
        try simp only [lgA, lgZ, Act.put, lsA, lsZ, lsS]
        refine turn_steady (.slice (some ⟨b, off, none⟩) ks.length c2) rfl rfl (fun W' hS => ?_) ?_
        · obtain ⟨z0, z1, z2, z3, z4, z5, -⟩ := five_facts (stays H2.out.1 hS)
          clear hS
          go_simp
        try simp only [lgA, lgS, lgZ, Act.put, lsA, lsZ, lsS]
        refine turn_steady (.int .i64 (0 : Nat)) rfl rfl (fun W' hS => ?_) ?_
        · go_simp
        try simp only [lgA, lgS, lgZ, Act.put, lsA, lsZ, lsS]
        refine turn_steady (.pointer (some ⟨b, off, none⟩)) rfl rfl (fun W' hS => ?_) ?_
        · go_simp
        try simp only [lgA, lgS, lgZ, Act.put, lsA, lsZ, lsS]
        refine turn_steady (.string x) rfl rfl (fun W' hS => ?_) ?_
        · have z0 := (hS.cell (p := ⟨b, off, none⟩) hbl).trans hc
          clear hS
          go_simp
        try simp only [lgA, lgS, lgZ, Act.put, lsA, lsZ, lsS]
        refine turn_steady (.int .i64 x.size) rfl rfl (fun W' hS => ?_) ?_
        · go_simp
        try simp only [lgA, lgS, lgZ, Act.put, lsA, lsZ, lsS]
        refine turn_steady (.bool false) rfl rfl (fun W' hS => ?_) ?_
        · go_simp
        try simp only [lgA, lgS, lgZ, Act.put, lsA, lsZ, lsS]
        refine turn_steady (.bool false) rfl rfl (fun W' hS => ?_) ?_
        · go_simp
        try simp only [lgA, lgS, lgZ, Act.put, lsA, lsZ, lsS]
        refine turn_steady (.int .i64 (0 : Nat)) rfl rfl (fun W' hS => ?_) ?_
        · go_simp
        try simp only [lgA, lgS, lgZ, Act.put, lsA, lsZ, lsS]
        refine turn_steady (.bool false) rfl rfl (fun W' hS => ?_) ?_
        · go_simp
        try simp only [lgA, lgS, lgZ, Act.put, lsA, lsZ, lsS]
        refine turn_steady (.bool false) rfl rfl (fun W' hS => ?_) ?_
        · go_simp
        try simp only [lgA, lgS, lgZ, Act.put, lsA, lsZ, lsS]
        refine turn_skip rfl rfl ?_
        try simp only [lgA, lgS, lgZ, Act.put, lsA, lsZ, lsS]
        refine turn_skip rfl rfl ?_
        try simp only [lgA, lgS, lgZ, Act.put, lsA, lsZ, lsS]
        refine turn_skip rfl rfl ?_
        try simp only [lgA, lgS, lgZ, Act.put, lsA, lsZ, lsS]
        refine turn_skip rfl rfl ?_
        try simp only [lgA, lgS, lgZ, Act.put, lsA, lsZ, lsS]
        refine turn_skip rfl rfl ?_
        try simp only [lgA, lgS, lgZ, Act.put, lsA, lsZ, lsS]
        refine turn_skip rfl rfl ?_
        try simp only [lgA, lgS, lgZ, Act.put, lsA, lsZ, lsS]
        refine turn_skip rfl rfl ?_
        try simp only [lgA, lgS, lgZ, Act.put, lsA, lsZ, lsS]
        refine turn_skip rfl rfl ?_
        try simp only [lgA, lgS, lgZ, Act.put, lsA, lsZ, lsS]
        refine turn_skip rfl rfl ?_
        try simp only [lgA, lgS, lgZ, Act.put, lsA, lsZ, lsS]
        refine turn_skip rfl rfl ?_
        try simp only [lgA, lgS, lgZ, Act.put, lsA, lsZ, lsS]
        refine turn_skip rfl rfl ?_
        try simp only [lgA, lgS, lgZ, Act.put, lsA, lsZ, lsS]
        refine turn_skip rfl rfl ?_
        try simp only [lgA, lgS, lgZ, Act.put, lsA, lsZ, lsS]
        refine turn_steady (.bool false) rfl rfl (fun W' hS => ?_) ?_
        · go_simp
        try simp only [lgA, lgS, lgZ, Act.put, lsA, lsZ, lsS]
        refine turn_steady (.bool false) rfl rfl (fun W' hS => ?_) ?_
        · go_simp
        try simp only [lgA, lgS, lgZ, Act.put, lsA, lsZ, lsS]
        refine turn_end ?_
        try simp only [lgA, lgS, lgZ, Act.put, lsA, lsZ, lsS]
        go_wp2_with fail
        go_roundw
        case rel => exact ⟨0 + 1, by go_num, by omega, H2⟩
        case measure => simp only [intOf]; omega
      | succ j =>
        have hgr := rises_get Hgo.out (List.getElem?_eq_getElem hlt)
        have hless := hgr.2 j _ rfl (List.getElem?_eq_getElem (by omega))
        have hsz := hgr.1
        obtain ⟨b, off, hae, hc⟩ := (Hk.out.below H2.out.2).at hlt
        obtain ⟨b', off', hb', hc'⟩ := (Hk.out.below H2.out.2).at (k := j) (by omega)
        subst hae
        cases hb'
        clear hgr
        generalize ks[j + 1] = x at hc hsz hless
        generalize ks[j] = y at hc' hless
        have hbl := block_of_cell hc
        have hjn : ((j + 1 : Nat) : Int) - 1 = (j : Int) := by omega
        have hbig : ¬ (65536 : Int) < x.size := by omega
        have hpos : (0 : Int) < ((j + 1 : Nat) : Int) := by omega
        have hnn : ¬ ((j : Int) + 1 < 0) := by omega
        have hjl : ¬ ks.length ≤ j := by omega
        obtain ⟨hl1, hl2⟩ := less_not hless
        have hwr : IntKind.i64.wrap (j : Int) = (j : Int) := by
          simp [IntKind.wrap, IntKind.signed, IntKind.bits]
          omega
        clear hsz
        go_wp2_with fail
        refine wp_region_turns (.s 0 (.s 1 (.s 2 (.s 3 (.s 4 (.s 5 (.s 6 (.s 7 (.s 8 (.s 9 (.s 10 (.s 11 (.s 12 (.s 13 (.s 14 (.s 15 (.s 16 (.s 17 (.s 18 (.s 19 (.s 20 (.s 21 (.s 22 (.s 23 (.s 24 .nil))))))))))))))))))))))))) 99 (fun W' => Below wr.drew.heap.size wr.drew W') (by kernel_rfl) (by kernel_rfl) (fun c a d v w h => by cases d <;> exact h) (Below.refl _ _) ?_
        clear q0 q1 q2 q3 q4 q5 hst
        generalize wr.drew = Wd at *
        refine turn_steady (.pointer (some ⟨w.heap.size, 4, none⟩)) rfl rfl (fun W' hS => ?_) ?_
        · obtain ⟨z0, z1, z2, z3, z4, z5, -⟩ := five_facts (stays H2.out.1 hS)
          clear hS
          go_simp
        try simp only [lgA, lgZ, Act.put, lsA, lsZ, lsS]
        refine turn_steady (.slice (some ⟨b, off, none⟩) ks.length c2) rfl rfl (fun W' hS => ?_) ?_
        · obtain ⟨z0, z1, z2, z3, z4, z5, -⟩ := five_facts (stays H2.out.1 hS)
          clear hS
          go_simp
        try simp only [lgA, lgS, lgZ, Act.put, lsA, lsZ, lsS]
        refine turn_steady (.int .i64 (j + 1 : Nat)) rfl rfl (fun W' hS => ?_) ?_
        · go_simp
        try simp only [lgA, lgS, lgZ, Act.put, lsA, lsZ, lsS]
        refine turn_steady (.pointer (some ⟨b, off + (j + 1), none⟩)) rfl rfl (fun W' hS => ?_) ?_
        · go_simp
        try simp only [lgA, lgS, lgZ, Act.put, lsA, lsZ, lsS]
        refine turn_steady (.string x) rfl rfl (fun W' hS => ?_) ?_
        · have z0 := (hS.cell (p := ⟨b, off + (j + 1), none⟩) hbl).trans hc
          clear hS
          go_simp
        try simp only [lgA, lgS, lgZ, Act.put, lsA, lsZ, lsS]
        refine turn_steady (.int .i64 x.size) rfl rfl (fun W' hS => ?_) ?_
        · go_simp
        try simp only [lgA, lgS, lgZ, Act.put, lsA, lsZ, lsS]
        refine turn_steady (.bool false) rfl rfl (fun W' hS => ?_) ?_
        · go_simp
        try simp only [lgA, lgS, lgZ, Act.put, lsA, lsZ, lsS]
        refine turn_steady (.bool false) rfl rfl (fun W' hS => ?_) ?_
        · go_simp
        try simp only [lgA, lgS, lgZ, Act.put, lsA, lsZ, lsS]
        refine turn_steady (.int .i64 (j + 1 : Nat)) rfl rfl (fun W' hS => ?_) ?_
        · go_simp
        try simp only [lgA, lgS, lgZ, Act.put, lsA, lsZ, lsS]
        refine turn_steady (.bool true) rfl rfl (fun W' hS => ?_) ?_
        · go_simp
        try simp only [lgA, lgS, lgZ, Act.put, lsA, lsZ, lsS]
        refine turn_steady (.bool true) rfl rfl (fun W' hS => ?_) ?_
        · go_simp
        try simp only [lgA, lgS, lgZ, Act.put, lsA, lsZ, lsS]
        refine turn_steady (.pointer (some ⟨w.heap.size, 4, none⟩)) rfl rfl (fun W' hS => ?_) ?_
        · obtain ⟨z0, z1, z2, z3, z4, z5, -⟩ := five_facts (stays H2.out.1 hS)
          clear hS
          go_simp
        try simp only [lgA, lgS, lgZ, Act.put, lsA, lsZ, lsS]
        refine turn_steady (.slice (some ⟨b, off, none⟩) ks.length c2) rfl rfl (fun W' hS => ?_) ?_
        · obtain ⟨z0, z1, z2, z3, z4, z5, -⟩ := five_facts (stays H2.out.1 hS)
          clear hS
          go_simp
        try simp only [lgA, lgS, lgZ, Act.put, lsA, lsZ, lsS]
        refine turn_steady (.int .i64 (j + 1 : Nat)) rfl rfl (fun W' hS => ?_) ?_
        · go_simp
        try simp only [lgA, lgS, lgZ, Act.put, lsA, lsZ, lsS]
        refine turn_steady (.pointer (some ⟨b, off + (j + 1), none⟩)) rfl rfl (fun W' hS => ?_) ?_
        · go_simp
        try simp only [lgA, lgS, lgZ, Act.put, lsA, lsZ, lsS]
        refine turn_steady (.string x) rfl rfl (fun W' hS => ?_) ?_
        · have z0 := (hS.cell (p := ⟨b, off + (j + 1), none⟩) hbl).trans hc
          clear hS
          go_simp
        try simp only [lgA, lgS, lgZ, Act.put, lsA, lsZ, lsS]
        refine turn_steady (.pointer (some ⟨w.heap.size, 4, none⟩)) rfl rfl (fun W' hS => ?_) ?_
        · obtain ⟨z0, z1, z2, z3, z4, z5, -⟩ := five_facts (stays H2.out.1 hS)
          clear hS
          go_simp
        try simp only [lgA, lgS, lgZ, Act.put, lsA, lsZ, lsS]
        refine turn_steady (.slice (some ⟨b, off, none⟩) ks.length c2) rfl rfl (fun W' hS => ?_) ?_
        · obtain ⟨z0, z1, z2, z3, z4, z5, -⟩ := five_facts (stays H2.out.1 hS)
          clear hS
          go_simp
        try simp only [lgA, lgS, lgZ, Act.put, lsA, lsZ, lsS]
        refine turn_steady (.int .i64 (j + 1 : Nat)) rfl rfl (fun W' hS => ?_) ?_
        · go_simp
        try simp only [lgA, lgS, lgZ, Act.put, lsA, lsZ, lsS]
        refine turn_steady (.int .i64 j) rfl rfl (fun W' hS => ?_) ?_
        · go_simp
        try simp only [lgA, lgS, lgZ, Act.put, lsA, lsZ, lsS]
        refine turn_steady (.pointer (some ⟨b, off + j, none⟩)) rfl rfl (fun W' hS => ?_) ?_
        · go_simp
        try simp only [lgA, lgS, lgZ, Act.put, lsA, lsZ, lsS]
        refine turn_steady (.string y) rfl rfl (fun W' hS => ?_) ?_
        · have z0 := (hS.cell (p := ⟨b, off + j, none⟩) hbl).trans hc'
          clear hS
          go_simp
        try simp only [lgA, lgS, lgZ, Act.put, lsA, lsZ, lsS]
        refine turn_steady (.bool false) rfl rfl (fun W' hS => ?_) ?_
        · go_simp
        try simp only [lgA, lgS, lgZ, Act.put, lsA, lsZ, lsS]
        refine turn_steady (.bool false) rfl rfl (fun W' hS => ?_) ?_
        · go_simp
        try simp only [lgA, lgS, lgZ, Act.put, lsA, lsZ, lsS]
        refine turn_steady (.bool false) rfl rfl (fun W' hS => ?_) ?_
        · go_simp
        try simp only [lgA, lgS, lgZ, Act.put, lsA, lsZ, lsS]
        refine turn_end ?_
        try simp only [lgA, lgS, lgZ, Act.put, lsA, lsZ, lsS]
        go_wp2_with fail
        go_roundw
        case rel => exact ⟨j + 1 + 1, by go_num, by omega, H2⟩
        case measure => simp only [intOf]; omega
    · go_wp2_with fail
      go_ret
      exact ⟨rfl, hst.out.2⟩
end Go.Proofs.YthknljeffpbbmaaGreatDoor
namespace Go.Proofs.YthknljeffpbbmaaGreatDoor
open Go Go.RowKit

theorem node_told {k n : Int} {s : ByteArray} {l : List Vl} {ks : List ByteArray} (h : nodeOk k n s l ks = true) :
    (k = 0 ∧ n = 0 ∧ s = ⟨#[]⟩ ∧ l = [] ∧ ks = []) ∨ (k = 1 ∧ (n = 0 ∨ n = 1) ∧ s = ⟨#[]⟩ ∧ l = [] ∧ ks = []) ∨ (k = 2 ∧ s = ⟨#[]⟩ ∧ l = [] ∧ ks = []) ∨ (k = 3 ∧ n = 0 ∧ s.size ≤ 65536 ∧ l = [] ∧ ks = []) ∨
      (k = 4 ∧ n = 0 ∧ s = ⟨#[]⟩ ∧ l.length ≤ 1000 ∧ ks = []) ∨ (k = 5 ∧ n = 0 ∧ s = ⟨#[]⟩ ∧ l.length = ks.length ∧ risesL ks = true) := by
  unfold nodeOk at h
  split at h
  · rename_i hk
    simp only [Bool.and_eq_true, beq_iff_eq, List.isEmpty_iff] at h
    exact .inl ⟨hk, h.1.1.1, empty_of (by simpa using h.1.1.2), h.1.2, h.2⟩
  split at h
  · rename_i hk
    simp only [Bool.and_eq_true, Bool.or_eq_true, beq_iff_eq, List.isEmpty_iff] at h
    exact .inr (.inl ⟨hk, h.1.1.1, empty_of (by simpa using h.1.1.2), h.1.2, h.2⟩)
  split at h
  · rename_i hk
    simp only [Bool.and_eq_true, List.isEmpty_iff] at h
    exact .inr (.inr (.inl ⟨hk, empty_of (by simpa using h.1.1), h.1.2, h.2⟩))
  split at h
  · rename_i hk
    simp only [Bool.and_eq_true, beq_iff_eq, decide_eq_true_eq, List.isEmpty_iff] at h
    exact .inr (.inr (.inr (.inl ⟨hk, h.1.1.1, h.1.1.2, h.1.2, h.2⟩)))
  split at h
  · rename_i hk
    simp only [Bool.and_eq_true, beq_iff_eq, decide_eq_true_eq, List.isEmpty_iff] at h
    exact .inr (.inr (.inr (.inr (.inl ⟨hk, h.1.1.1, empty_of (by simpa using h.1.1.2), h.1.2, h.2⟩))))
  split at h
  · rename_i hk
    simp only [Bool.and_eq_true, beq_iff_eq, List.isEmpty_iff] at h
    exact .inr (.inr (.inr (.inr (.inr ⟨hk, h.1.1.1, empty_of (by simpa using h.1.1.2), h.1.2, h.2⟩))))
  · cases h

set_option maxRecDepth 100000 in
set_option maxHeartbeats 4000000 in
theorem nodeR_any (k n1 : Int) (s : ByteArray) (l : List Vl) (ks : List ByteArray) (hok : nodeOk k n1 s l ks = true) (F : Nat → Prop) (a1 : Option Addr) (c1 : Nat) (a2 : Option Addr) (c2 : Nat) (w : World) (hk : RowAt F w a2 (strsD ks)) :
    Calls Tryz.prog 97 #[.agg #[.int .i64 k, .int .i64 n1, .string s, .slice a1 l.length c1, .slice a2 ks.length c2]] w (PYes w) := by
  rcases node_told hok with ⟨rfl, rfl, rfl, rfl, rfl⟩ | ⟨rfl, hn, rfl, rfl, rfl⟩ | ⟨rfl, rfl, rfl, rfl⟩ | ⟨rfl, rfl, hsz, rfl, rfl⟩ | ⟨rfl, rfl, rfl, hl, rfl⟩ | ⟨rfl, rfl, rfl, hlk, hri⟩
  · clear hok
    have HB := Lib.hid ((Below.refl _ w).alloc (Nat.le_refl _) (.cells #[.int .i64 0, .int .i64 0, .string ⟨#[]⟩, .slice a1 0 c1, .slice a2 0 c2] 37))
    rw [List.length_nil, List.length_nil]
    go_enter Tryz.func97, Tryz.ntmps97
    go_wp2_with fail
    go_ret
    exact ⟨rfl, HB.out⟩
  · clear hok
    have HB := Lib.hid ((Below.refl _ w).alloc (Nat.le_refl _) (.cells #[.int .i64 1, .int .i64 n1, .string ⟨#[]⟩, .slice a1 0 c1, .slice a2 0 c2] 37))
    rw [List.length_nil, List.length_nil]
    rcases hn with rfl | rfl
    · go_enter Tryz.func97, Tryz.ntmps97
      go_wp2_with fail
      go_ret
      exact ⟨rfl, HB.out⟩
    · go_enter Tryz.func97, Tryz.ntmps97
      go_wp2_with fail
      go_ret
      exact ⟨rfl, HB.out⟩
  · clear hok
    have HB := Lib.hid ((Below.refl _ w).alloc (Nat.le_refl _) (.cells #[.int .i64 2, .int .i64 n1, .string ⟨#[]⟩, .slice a1 0 c1, .slice a2 0 c2] 37))
    rw [List.length_nil, List.length_nil]
    go_enter Tryz.func97, Tryz.ntmps97
    go_wp2_with fail
    go_ret
    exact ⟨rfl, HB.out⟩
  · clear hok
    have HB := Lib.hid ((Below.refl _ w).alloc (Nat.le_refl _) (.cells #[.int .i64 3, .int .i64 0, .string s, .slice a1 0 c1, .slice a2 0 c2] 37))
    rw [List.length_nil, List.length_nil]
    have hle : (s.size : Int) ≤ 65536 := by omega
    go_enter Tryz.func97, Tryz.ntmps97
    go_wp2_with fail
    go_ret
    exact ⟨rfl, HB.out⟩
  · clear hok
    have HB := Lib.hid ((Below.refl _ w).alloc (Nat.le_refl _) (.cells #[.int .i64 4, .int .i64 0, .string ⟨#[]⟩, .slice a1 l.length c1, .slice a2 0 c2] 37))
    rw [List.length_nil]
    generalize l.length = n at hl HB ⊢
    have hle : (n : Int) ≤ 1000 := by omega
    go_enter Tryz.func97, Tryz.ntmps97
    go_wp2_with fail
    go_ret
    exact ⟨rfl, HB.out⟩
  · clear hok
    have hba : Below w.heap.size w (w.alloc (.cells #[.int .i64 5, .int .i64 0, .string ⟨#[]⟩, .slice a1 l.length c1, .slice a2 ks.length c2] 37)) := (Below.refl _ w).alloc (Nat.le_refl _) _
    have HB := Lib.hid hba
    have HK := Lib.hid (keys_any 5 0 ⟨#[]⟩ l ks hlk hri a1 c1 a2 c2 _ (hk.below hba).strs)
    have hle : (l.length : Int) ≤ 1000 := by
      unfold risesL at hri
      rw [Bool.and_eq_true, decide_eq_true_eq] at hri
      omega
    clear hba hk hri
    generalize l.length = n at hle HB HK hlk ⊢
    subst hlk
    go_enter Tryz.func97, Tryz.ntmps97
    go_wp2_with fail
    refine HK.out.mono ?_
    rintro e w1 ⟨rfl, hb1⟩
    have Hb1 := Lib.hid (HB.out.trans (hb1.mono HB.out.size))
    clear hb1
    go_wp2_with fail
    go_ret
    exact ⟨rfl, Hb1.out⟩

def NodesC (v : Vl) : Prop := ∀ (F : Nat → Prop) (a1 : Option Addr) (c1 : Nat) (a2 : Option Addr) (c2 : Nat) (w : World), RowAt F w a1 (valsD v.items) → RowAt F w a2 (strsD v.keys) → nodesR v = true →
  Calls Tryz.prog 58 #[.agg #[.int .i64 v.kind, .int .i64 v.num, .string v.str, .slice a1 v.items.length c1, .slice a2 v.keys.length c2]] w (PYes w)
set_option maxRecDepth 100000 in
set_option maxHeartbeats 2000000 in
theorem nodes_node (k n1 : Int) (s : ByteArray) (l : List Vl) (ks : List ByteArray) (hl : l.length ≤ 140737488355328) (hit : ∀ x ∈ l, NodesC x) (F : Nat → Prop) (a1 : Option Addr) (c1 : Nat) (a2 : Option Addr) (c2 : Nat) (w : World) (hr1 : RowAt F w a1 (valsD l)) (hr2 : RowAt F w a2 (strsD ks)) (hns : nodesRs l = true) (hok : nodeOk k n1 s l ks = true) :
    Calls Tryz.prog 58 #[.agg #[.int .i64 k, .int .i64 n1, .string s, .slice a1 l.length c1, .slice a2 ks.length c2]] w (PYes w) := by
  have hba : Below w.heap.size w (w.alloc (.cells #[.int .i64 k, .int .i64 n1, .string s, .slice a1 l.length c1, .slice a2 ks.length c2] 37)) := (Below.refl _ w).alloc (Nat.le_refl _) _
  have H0 := Lib.hid (And.intro (heap_alloc_new w (.cells #[.int .i64 k, .int .i64 n1, .string s, .slice a1 l.length c1, .slice a2 ks.length c2] 37)) hba)
  have Hr := Lib.hid hr1
  have Hit := Lib.hid hit
  have Hns := Lib.hid hns
  have HN := Lib.hid (fun W (h : Below w.heap.size w W) => nodeR_any k n1 s l ks hok F a1 c1 a2 c2 W (hr2.below h))
  clear hr1 hr2 hit hba hns hok
  go_enter Tryz.func58, Tryz.ntmps58
  go_wp2_with fail
  generalize World.alloc _ _ = W0 at H0 ⊢
  go_loopw [7] (fun i wr => ∃ j : Nat, i = .int .i64 j ∧ j ≤ l.length ∧ Hid (wr.heap[w.heap.size]? = some (.cells #[.int .i64 k, .int .i64 n1, .string s, .slice a1 l.length c1, .slice a2 ks.length c2] 37 (0, 0)) ∧ Below w.heap.size w wr)) (fun i _ => l.length - (intOf i).toNat)
  case atStart => exact ⟨0, rfl, Nat.zero_le _, H0⟩
  case round =>
    obtain ⟨j, rfl, hj, hst⟩ := hrel
    obtain ⟨q0, q1, q2, q3, q4, q5, -⟩ := five_facts hst.out.1
    by_cases hlt : j < l.length
    · have hx0 : l[j]? = some l[j] := List.getElem?_eq_getElem hlt
      generalize l[j] = x at hx0
      have HC := Lib.hid (Hit.out x (List.mem_of_getElem? hx0))
      have g1 := nodesRs_get Hns.out hx0
      obtain ⟨xk, xn, xs, xl, xks⟩ := x
      obtain ⟨b, off, b1, e1, b2, e2, rfl, -, hbl, r0, r1, r2, r3, r4, hs1, hs2⟩ := (Hr.out.below hst.out.2).val hx0
      have HK := Lib.hid (HC.out F b1 e1 b2 e2 wr hs1 hs2 g1)
      clear hx0 HC hs1 hs2 g1
      go_wp2_with fail
      refine HK.out.mono ?_
      rintro e w2 ⟨rfl, hb2⟩
      have Hst2 := Lib.hid (And.intro (stays hst.out.1 hb2) (hst.out.2.trans (hb2.mono hst.out.2.size)))
      clear hb2 hst HK r0 r1 r2 r3 r4 q0 q1 q2 q3 q4 q5
      go_wp2_with fail
      go_roundw
      case rel => exact ⟨j + 1, by go_num, by omega, Hst2⟩
      case measure => simp only [intOf]; omega
    · have HN1 := Lib.hid (HN.out wr hst.out.2)
      clear HN
      go_wp2_with fail
      refine HN1.out.mono ?_
      rintro e w2 ⟨rfl, hb2⟩
      have Hb2 := Lib.hid (hst.out.2.trans (hb2.mono hst.out.2.size))
      clear hb2
      go_wp2_with fail
      go_ret
      exact ⟨rfl, Hb2.out⟩
theorem nodes_any (v : Vl) : smallV v → NodesC v :=
  Vl.rec (motive_1 := fun v => smallV v → NodesC v) (motive_2 := fun l => smallVs l → ∀ x ∈ l, NodesC x)
    (fun k n s l ks ih h F a1 c1 a2 c2 w hr1 hr2 hok => by
      rw [smallV] at h
      rw [nodesR, Bool.and_eq_true] at hok
      exact nodes_node k n s l ks h.2.1 (ih h.2.2.2.2) F a1 c1 a2 c2 w hr1 hr2 hok.1 hok.2)
    (fun _ x hx => by cases hx)
    (fun v t hv ht h x hx => by
      rw [smallVs] at h
      rcases List.mem_cons.1 hx with rfl | hx
      · exact hv h.1
      · exact ht h.2 x hx) v

theorem check_told {v : Vl} (h : checkV v = true) : cntV v ≤ 20000 ∧ dpV v ≤ 60 ∧ nodesR v = true := by
  unfold checkV at h
  obtain ⟨h1, h2, h3⟩ := mayV_told v 1 20000 h
  have h4 := (mayV_left v 1 20000 (by omega)).2.2 h
  exact ⟨by omega, by omega, h2⟩
set_option maxRecDepth 100000 in
set_option maxHeartbeats 2000000 in
theorem check11_any (k n1 : Int) (s : ByteArray) (l : List Vl) (ks : List ByteArray) (hck : checkV (.mk k n1 s l ks) = true) (F : Nat → Prop) (a1 : Option Addr) (c1 : Nat) (a2 : Option Addr) (c2 : Nat) (w : World) (hr1 : RowAt F w a1 (valsD l)) (hr2 : RowAt F w a2 (strsD ks)) :
    Calls Tryz.prog 31 #[.agg #[.int .i64 k, .int .i64 n1, .string s, .slice a1 l.length c1, .slice a2 ks.length c2]] w (PYes w) := by
  have hs := check_small hck
  obtain ⟨g1, g2, g3⟩ := check_told hck
  have hba : Below w.heap.size w (w.alloc (.cells #[.int .i64 k, .int .i64 n1, .string s, .slice a1 l.length c1, .slice a2 ks.length c2] 37)) := (Below.refl _ w).alloc (Nat.le_refl _) _
  have H0 := Lib.hid (And.intro (heap_alloc_new w (.cells #[.int .i64 k, .int .i64 n1, .string s, .slice a1 l.length c1, .slice a2 ks.length c2] 37)) hba)
  have HM := Lib.hid (many_any _ hs F a1 c1 a2 c2 20000 _ (hr1.below hba) (hr2.below hba) g1 (by omega))
  have HD := Lib.hid (fun W (h : Below w.heap.size w W) => deep_any _ hs F a1 c1 a2 c2 60 W (hr1.below h) (hr2.below h) g2 (by omega) (by omega))
  have HN := Lib.hid (fun W (h : Below w.heap.size w W) => nodes_any _ hs F a1 c1 a2 c2 W (hr1.below h) (hr2.below h) g3)
  clear hba hr1 hr2 hs hck
  generalize cntV (.mk k n1 s l ks) = cx at HM g1
  generalize dpV (.mk k n1 s l ks) = dx at HD g2
  clear g3
  go_enter Tryz.func31, Tryz.ntmps31
  go_wp2_with fail
  refine HM.out.mono ?_
  rintro e w1 ⟨rfl, hb1⟩
  have H1 := Lib.hid (And.intro (stays H0.out.1 hb1) (H0.out.2.trans (hb1.mono H0.out.2.size)))
  have HD1 := Lib.hid (HD.out w1 H1.out.2)
  clear hb1 H0 HM HD
  obtain ⟨q0, q1, q2, q3, q4, q5, -⟩ := five_facts H1.out.1
  go_wp2_with fail
  refine HD1.out.mono ?_
  rintro e w2 ⟨⟨d, rfl, hd0, hd1⟩, hb2⟩
  have H2 := Lib.hid (And.intro (stays H1.out.1 hb2) (H1.out.2.trans (hb2.mono H1.out.2.size)))
  have HN1 := Lib.hid (HN.out w2 H2.out.2)
  have hd60 : d ≤ 60 := by omega
  clear hb2 H1 HD1 HN q0 q1 q2 q3 q4 q5 hd1
  obtain ⟨q0, q1, q2, q3, q4, q5, -⟩ := five_facts H2.out.1
  go_wp2_with fail
  refine HN1.out.mono ?_
  rintro e w3 ⟨rfl, hb3⟩
  have Hb3 := Lib.hid (H2.out.2.trans (hb3.mono H2.out.2.size))
  clear hb3
  go_wp2_with fail
  go_ret
  exact ⟨rfl, Hb3.out⟩
end Go.Proofs.YthknljeffpbbmaaGreatDoor
namespace Go.Proofs.YthknljeffpbbmaaGreatDoor
open Go Go.RowKit

def PTextsR (w : World) (e : Ending) (w' : World) : Prop := Below w.heap.size w w' ∧ ∃ x, e = .returned (.tuple #[x, .bool true])
set_option maxRecDepth 100000 in
set_option maxHeartbeats 4000000 in
theorem texts11_any (n : Int) (s : ByteArray) (l : List Vl) (ks : List ByteArray) (hck : checkV (.mk 4 n s l ks) = true) (hall : ∀ x ∈ l, x.kind = 3) (F : Nat → Prop) (a1 : Option Addr) (c1 : Nat) (a2 : Option Addr) (c2 : Nat) (w : World) (hr1 : RowAt F w a1 (valsD l)) (hr2 : RowAt F w a2 (strsD ks)) :
    Calls Tryz.prog 32 #[.agg #[.int .i64 4, .int .i64 n, .string s, .slice a1 l.length c1, .slice a2 ks.length c2]] w (PTextsR w) := by
  have hl := (check_len hck).2.1
  obtain ⟨n1, n2, n3, n4⟩ := alloc2 w (.cells #[.int .i64 4, .int .i64 n, .string s, .slice a1 l.length c1, .slice a2 ks.length c2] 37) (.cells #[] 9)
  have H0 := Lib.hid (And.intro n1 (And.intro n2 n3))
  have HC := Lib.hid (check11_any 4 n s l ks hck F a1 c1 a2 c2 _ (hr1.below n3) (hr2.below n3))
  have Hr := Lib.hid hr1
  have Hall := Lib.hid hall
  clear hr1 hr2 hck hall n1 n2 n3 n4
  obtain ⟨i0, hi, hz0, hz1, hz2⟩ := info_parts infoStr
  go_enter Tryz.func32, Tryz.ntmps32
  go_wp2_with fail
  refine HC.out.mono ?_
  rintro e w1 ⟨rfl, hb1⟩
  have H1 := Lib.hid (And.intro (stays H0.out.1 hb1) (And.intro (stays H0.out.2.1 hb1) (H0.out.2.2.trans (hb1.mono H0.out.2.2.size))))
  have hs1 := here H1.out.2.1
  clear hb1 H0 HC
  obtain ⟨q0, q1, q2, q3, q4, q5, -⟩ := five_facts H1.out.1
  go_wp2_with fail
  clear q0 q1 q2 q3 q4 q5
  go_loopw [4, 19] (fun v i wr => ∃ (j : Nat) (aL : Option Addr) (cL : Nat), i = .int .i64 j ∧ v = .slice aL j cL ∧ j ≤ l.length ∧ Hid (OwnS wr (w.heap.size + 1) (.slice aL j cL) ((l.take j).map Vl.str)) ∧ Hid (wr.heap[w.heap.size]? = some (.cells #[.int .i64 4, .int .i64 n, .string s, .slice a1 l.length c1, .slice a2 ks.length c2] 37 (0, 0)) ∧ Below w.heap.size w wr)) (fun _ i _ => l.length - (intOf i).toNat)
  case atStart =>
    refine ⟨0, some ⟨w.heap.size + 1, 0, none⟩, 0, rfl, rfl, Nat.zero_le _, Lib.hid ?_, Lib.hid ⟨H1.out.1, H1.out.2.2⟩⟩
    refine ⟨by simp, .inr ⟨w.heap.size + 1, 0, #[], rfl, Nat.le_refl _, H1.out.2.1, Nat.le_refl _, Nat.zero_le _, rfl, by simp⟩⟩
  case round =>
    obtain ⟨j, aL, cL, rfl, rfl, hj, hown, hst⟩ := hrel
    obtain ⟨q0, q1, q2, q3, q4, q5, -⟩ := five_facts hst.out.1
    have hsw := here hst.out.1
    by_cases hlt : j < l.length
    · have hx0 : l[j]? = some l[j] := List.getElem?_eq_getElem hlt
      generalize l[j] = x at hx0
      have hk3 := Hall.out x (List.mem_of_getElem? hx0)
      have htk : l.take (j + 1) = l.take j ++ [x] := by rw [List.take_add_one, hx0]; rfl
      obtain ⟨xk, xn, xs, xl, xks⟩ := x
      obtain rfl : xk = 3 := hk3
      obtain ⟨b, off, b1, e1, b2, e2, rfl, -, hbl, r0, r1, r2, r3, r4, -, -⟩ := (Hr.out.below hst.out.2).val hx0
      have hba : Below wr.heap.size wr (wr.alloc (.cells #[.string xs] 9)) := (Below.refl _ wr).alloc (Nat.le_refl _) _
      have Hnews := Lib.hid (lit_one wr (.string xs) 9)
      have Hown1 : Hid ((wr.alloc (.cells #[.string xs] 9)).ownsRow (w.heap.size + 1) 9 1 (.slice aL j cL) j (((l.take j).map Vl.str).map Value.string)) := Lib.hid (by
        have := hown.out.below hba
        unfold OwnS at this
        rw [List.length_map, List.length_take, Nat.min_eq_left hj] at this
        exact this)
      have Hblk : Hid (∀ g, (Value.slice aL j cL).ownBlock = some g → w.heap.size + 1 ≤ g) := Lib.hid (fun g hg => (hown.out.block hg).1)
      have Htk : Hid ((l.take (j + 1)).map Vl.str = (l.take j).map Vl.str ++ [xs]) := Lib.hid (by rw [htk, List.map_append]; rfl)
      have Hst1 := Lib.hid (And.intro (stays hst.out.1 hba) (hst.out.2.trans (hba.mono hst.out.2.size)))
      clear hba hown hst htk hx0
      go_wp2_with (at_builtin; refine wpList_append_own _ rfl _ _ 35 rfl (w.heap.size + 1) 9 i0 (.string ByteArray.empty) 1 16 Tryz.underlying35 hi hz0 hz1 hz2 rfl (by decide) (.slice aL j cL) j _ rfl Hown1.out ⟨wr.heap.size, 0, none⟩ 1 1 [.string xs] rfl rfl Hnews.out ?_ ?_ ?_ ?_ ?_)
      · simp [Value.oneCell']
      · unfold maxLen; omega
      · omega
      · simp; omega
      intro v2 w2 hown2 hgrow2 _
      have Hown2 : Hid (OwnS w2 (w.heap.size + 1) v2 ((l.take (j + 1)).map Vl.str)) := Lib.hid (by
        rw [Htk.out]
        unfold OwnS
        rw [List.length_append, List.length_map, List.length_take, Nat.min_eq_left hj, List.map_append]
        simpa using hown2)
      have hb2 := grown_below hgrow2 (n := w.heap.size + 1) Hblk.out (by simp; omega)
      have Hst2 := Lib.hid (And.intro ((hb2.block w.heap.size (by omega)).trans Hst1.out.1) (Hst1.out.2.trans (hb2.mono (by omega))))
      obtain ⟨aL2, cL2, hv2, -, -⟩ := Hown2.out.strsAt
      rw [List.length_map, List.length_take, Nat.min_eq_left (by omega)] at hv2
      subst hv2
      clear hown2 hgrow2 hb2 Hst1 Hown1 q0 q1 q2 q3 q4 q5 r0 r1 r2 r3 r4
      go_wp2_with fail
      go_roundw
      case rel => exact ⟨j + 1, aL2, cL2, by go_num, rfl, by omega, Hown2, Hst2⟩
      case measure => simp only [intOf]; omega
    · go_wp2_with fail
      exact bodyPost_ret (v := .tuple #[.slice aL j cL, .bool true]) (by simp [results, Tryz.results32, go_sem]) rfl ⟨hst.out.2, _, rfl⟩

set_option maxRecDepth 100000 in
set_option maxHeartbeats 4000000 in
theorem fitsR_any (t k n : Int) (s : ByteArray) (l : List Vl) (ks : List ByteArray) (hf : fitsV t (.mk k n s l ks) = true) (F : Nat → Prop) (a1 : Option Addr) (c1 : Nat) (a2 : Option Addr) (c2 : Nat) (w : World) (hr1 : RowAt F w a1 (valsD l)) (hr2 : RowAt F w a2 (strsD ks)) :
    Calls Tryz.prog 12 #[.agg #[.int .i64 k, .int .i64 n, .string s, .slice a1 l.length c1, .slice a2 ks.length c2], .int .i64 t] w (PYes w) := by
  unfold fitsV at hf
  rw [Bool.and_eq_true] at hf
  obtain ⟨hck, hf⟩ := hf
  have hba : Below w.heap.size w (w.alloc (.cells #[.int .i64 k, .int .i64 n, .string s, .slice a1 l.length c1, .slice a2 ks.length c2] 37)) := (Below.refl _ w).alloc (Nat.le_refl _) _
  have H0 := Lib.hid (And.intro (heap_alloc_new w (.cells #[.int .i64 k, .int .i64 n, .string s, .slice a1 l.length c1, .slice a2 ks.length c2] 37)) hba)
  have HC := Lib.hid (check11_any k n s l ks hck F a1 c1 a2 c2 _ (hr1.below hba) (hr2.below hba))
  have Hr := Lib.hid (And.intro hr1 hr2)
  clear hba hr1 hr2
  have key : (t = 1 ∧ k = 3) ∨ (t = 2 ∧ k = 1) ∨ (t = 3 ∧ k = 2) ∨ ((t = 4 ∨ t = 5 ∨ t = 6) ∧ k = 4 ∧ ∀ x ∈ l, x.kind = 3) := by
    split at hf
    · rename_i h; exact .inl ⟨h, by simpa [Vl.kind] using hf⟩
    split at hf
    · rename_i h; exact .inr (.inl ⟨h, by simpa [Vl.kind] using hf⟩)
    split at hf
    · rename_i h; exact .inr (.inr (.inl ⟨h, by simpa [Vl.kind] using hf⟩))
    split at hf
    · rename_i h
      unfold textsL at hf
      split at hf
      · rename_i h2
        refine .inr (.inr (.inr ⟨h, h2.1, fun x hx => ?_⟩))
        have := List.all_eq_true.1 h2.2.2 x hx
        simpa using this
      · cases hf
    · cases hf
  clear hf
  rcases key with ⟨rfl, rfl⟩ | ⟨rfl, rfl⟩ | ⟨rfl, rfl⟩ | ⟨ht, rfl, hall⟩
  · go_enter Tryz.func12, Tryz.ntmps12
    go_wp2_with fail
    refine HC.out.mono ?_
    rintro e w1 ⟨rfl, hb1⟩
    have H1 := Lib.hid (And.intro (stays H0.out.1 hb1) (H0.out.2.trans (hb1.mono H0.out.2.size)))
    clear hb1 H0 HC hck
    obtain ⟨q0, q1, q2, q3, q4, q5, -⟩ := five_facts H1.out.1
    go_wp2_with fail
    go_ret
    exact ⟨rfl, H1.out.2⟩
  · go_enter Tryz.func12, Tryz.ntmps12
    go_wp2_with fail
    refine HC.out.mono ?_
    rintro e w1 ⟨rfl, hb1⟩
    have H1 := Lib.hid (And.intro (stays H0.out.1 hb1) (H0.out.2.trans (hb1.mono H0.out.2.size)))
    clear hb1 H0 HC hck
    obtain ⟨q0, q1, q2, q3, q4, q5, -⟩ := five_facts H1.out.1
    go_wp2_with fail
    go_ret
    exact ⟨rfl, H1.out.2⟩
  · go_enter Tryz.func12, Tryz.ntmps12
    go_wp2_with fail
    refine HC.out.mono ?_
    rintro e w1 ⟨rfl, hb1⟩
    have H1 := Lib.hid (And.intro (stays H0.out.1 hb1) (H0.out.2.trans (hb1.mono H0.out.2.size)))
    clear hb1 H0 HC hck
    obtain ⟨q0, q1, q2, q3, q4, q5, -⟩ := five_facts H1.out.1
    go_wp2_with fail
    go_ret
    exact ⟨rfl, H1.out.2⟩
  · rcases ht with rfl | rfl | rfl
    all_goals
      go_enter Tryz.func12, Tryz.ntmps12
      go_wp2_with fail
      refine HC.out.mono ?_
      rintro e w1 ⟨rfl, hb1⟩
      have H1 := Lib.hid (And.intro (stays H0.out.1 hb1) (H0.out.2.trans (hb1.mono H0.out.2.size)))
      have HT := Lib.hid (texts11_any n s l ks hck hall F a1 c1 a2 c2 w1 (Hr.out.1.below H1.out.2) (Hr.out.2.below H1.out.2))
      clear hb1 H0 HC hck hall
      obtain ⟨q0, q1, q2, q3, q4, q5, -⟩ := five_facts H1.out.1
      go_wp2_with fail
      refine HT.out.mono ?_
      rintro e w2 ⟨hb2, x, rfl⟩
      have Hb2 := Lib.hid (H1.out.2.trans (hb2.mono H1.out.2.size))
      clear hb2
      go_wp2_with fail
      go_ret
      exact ⟨rfl, Hb2.out⟩
end Go.Proofs.YthknljeffpbbmaaGreatDoor
