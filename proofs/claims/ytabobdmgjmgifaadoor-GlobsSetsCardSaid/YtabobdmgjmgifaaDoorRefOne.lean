/-
  The walk of the reference's one: which beginnings of a text go with which beginnings of a pattern's part.
-/
import Derived.Test.YtabobdmgjmgifaaDoorBools
import Derived.Test.YtabobdmgjmgifaaDoorOne
namespace Go.Proofs.YtabobdmgjmgifaaDoor
open Go Go.RowKit

/-- Do the first i signs of a pattern go with the first k of a text? -/
def pre (p s : List UInt8) (i k : Nat) : Bool := wild (p.take i) (s.take k)

theorem take_succ_get {l : List UInt8} {k : Nat} {x : UInt8} (h : l[k]? = some x) : l.take (k + 1) = l.take k ++ [x] := by
  rw [List.take_add_one, h]; rfl
theorem pre_zero {s : List UInt8} (p : List UInt8) {k : Nat} (hk : k ≤ s.length) : pre p s 0 k = decide (k = 0) := by
  unfold pre
  rw [List.take_zero, wild, Bool.eq_iff_iff, List.isEmpty_iff, decide_eq_true_eq, List.take_eq_nil_iff]
  constructor
  · rintro (h | h)
    · exact h
    · subst h; simp at hk; exact hk
  · intro h; exact .inl h
theorem pre_star_zero {p s : List UInt8} {i : Nat} (hi : p[i]? = some 42) : pre p s (i + 1) 0 = pre p s i 0 := by
  unfold pre
  rw [take_succ_get hi, List.take_zero, wild_snoc_star_nil]
theorem pre_star_succ {p s : List UInt8} {i k : Nat} {c : UInt8} (hi : p[i]? = some 42) (hk : s[k]? = some c) : pre p s (i + 1) (k + 1) = (pre p s i (k + 1) || pre p s (i + 1) k) := by
  unfold pre
  rw [take_succ_get hi, take_succ_get hk, wild_snoc_star]
theorem pre_chr_zero {p s : List UInt8} {i : Nat} {x : UInt8} (hi : p[i]? = some x) (hx : x ≠ 42) : pre p s (i + 1) 0 = false := by
  unfold pre
  rw [take_succ_get hi, List.take_zero, wild_snoc_chr_nil x hx]
theorem pre_chr_succ {p s : List UInt8} {i k : Nat} {x c : UInt8} (hi : p[i]? = some x) (hx : x ≠ 42) (hk : s[k]? = some c) : pre p s (i + 1) (k + 1) = (pre p s i k && okc x c) := by
  unfold pre
  rw [take_succ_get hi, take_succ_get hk, wild_snoc_chr x hx]

/-- The row while it is made. -/
def upto (f : Nat → Bool) (k : Nat) (j : Nat) : Bool := decide (j < k) && f j
theorem upto_lt {f : Nat → Bool} {k j : Nat} (h : j < k) : upto f k j = f j := by unfold upto; rw [decide_eq_true h]; rfl
theorem upto_set {f : Nat → Bool} {k : Nat} {b : Bool} (hb : b = f k) (j : Nat) : (if j = k then b else upto f k j) = upto f (k + 1) j := by
  by_cases h : j = k
  · subst h; rw [if_pos rfl, upto_lt (Nat.lt_succ_self _)]; exact hb
  · rw [if_neg h]; unfold upto
    congr 1
    rw [decide_eq_decide]; omega
theorem upto_keep {f : Nat → Bool} {k : Nat} (hb : f k = false) (j : Nat) : upto f k j = upto f (k + 1) j := by
  by_cases h : j = k
  · subst h; unfold upto; rw [hb]; simp
  · unfold upto
    congr 1
    rw [decide_eq_decide]; omega

set_option maxRecDepth 100000 in
set_option maxHeartbeats 2000000 in
theorem refOne_any (p s : ByteArray) (w : World) (hp : p.size ≤ 4294967296) (hs : s.size ≤ 4294967296) :
    Calls Tryd.prog 33 #[.string p, .string s] w (PBelow (wild p.data.toList s.data.toList) w) := by
  go_enter Tryd.func33, Tryd.ntmps33
  go_wp2_with (at_make; refine wpList_make_bools rfl _ _ rfl w.heap.size (s.size + 1) (by omega) rfl rfl (Nat.le_refl _) ?_; intro w1 hown1 hgr1 hz1; have c0 := hown1.cell (j := 0) (by omega); have f0 := hown1.frozen 0; have Hown1 := Lib.hid hown1; have Hz1 := Lib.hid hz1; clear hown1 hz1)
  have hown2 := (Hown1.out.store 0 true).congr (h' := pre p.data.toList s.data.toList 0) (fun j hj => by
    rw [pre_zero _ (by rw [len_data]; omega)]
    by_cases h : j = 0 <;> simp [h])
  have hb2 : Below w.heap.size w (w1.setCell ⟨w.heap.size, 0, none⟩ (.bool true)) := ((Below.refl _ w).grown hgr1 (Nat.le_refl _) (fun k h => by cases h)).setCell (p := ⟨w.heap.size, 0, none⟩) (Nat.le_refl _) _
  clear c0 f0 Hown1
  go_loopw [5, 6, 7, 8] (fun v i _ _ wr => ∃ (k g : Nat), v = .slice (some ⟨g, 0, none⟩) (s.size + 1) (s.size + 1) ∧ i = .int .i64 k ∧ k ≤ p.size ∧ OwnF wr w.heap.size g (s.size + 1) (pre p.data.toList s.data.toList k) ∧ Below w.heap.size w wr) (fun _ i _ _ _ => p.size - (intOf i).toNat)
  case atStart => exact ⟨0, _, rfl, rfl, Nat.zero_le _, hown2, hb2⟩
  case round =>
    clear hown2 hb2 hgr1 Hz1
    obtain ⟨i, g, rfl, rfl, hi, hown, hb⟩ := hrel
    by_cases hlt : i < p.size
    · have Hi := Lib.hid (get_data p i hlt)
      have Hown := Lib.hid hown
      clear hown
      go_wp2_with (at_make; refine wpList_make_bools rfl _ _ rfl w.heap.size (s.size + 1) (by omega) rfl rfl hb.size ?_; intro w2 hown2 hgr2 hz2; have Hown2 := Lib.hid hown2; have Hz2 := Lib.hid hz2; clear hown2 hz2)
      have hb2 : Below w.heap.size w w2 := hb.grown hgr2 hb.size (fun k h => by cases h)
      have hown' := Hown.out.grown hgr2
      obtain ⟨g2, hg2⟩ : ∃ g2, g2 = wr.heap.size := ⟨_, rfl⟩
      have hne : g ≠ g2 := by have := Hown.out.lt_size; omega
      have hown2 := Hown2.out
      rw [← hg2] at hown2 ⊢
      have Hg2 := Lib.hid hg2
      clear hg2 Hown2 Hz2 Hown hgr2 hb
      go_loopw [8] (fun kk wq => ∃ k : Nat, kk = .int .i64 k ∧ k ≤ s.size + 1 ∧ OwnF wq w.heap.size g (s.size + 1) (pre p.data.toList s.data.toList i) ∧ OwnF wq w.heap.size g2 (s.size + 1) (upto (pre p.data.toList s.data.toList (i + 1)) k) ∧ Below w.heap.size w wq) (fun kk _ => s.size + 1 - (intOf kk).toNat)
      case atStart => exact ⟨0, rfl, Nat.zero_le _, hown', hown2.congr (fun j hj => by unfold upto; simp), hb2⟩
      case round =>
        clear hown' hown2 hb2
        obtain ⟨k, rfl, hk, hoa, hon, hbq⟩ := hrel
        have Hoa := Lib.hid hoa
        have Hon := Lib.hid hon
        clear hoa hon
        by_cases hkl : k < s.size + 1
        · have hfk := Hon.out.frozen k
          have hck := Hon.out.cell hkl
          cases h42 : ((p[i].toNat : Int) == 42)
          · have Hne42 : Hid (p[i] ≠ 42) := Lib.hid (by intro h; rw [h] at h42; cases h42)
            rcases Nat.eq_zero_or_pos k with rfl | hk0
            · have hd0 : decide ((0 : Int) < 0) = false := by decide
              have Hf := Lib.hid (pre_chr_zero (s := s.data.toList) Hi.out Hne42.out)
              go_wp2_with fail
              go_quiet (fail)
              go_wp2_with fail
              go_roundw
              case rel => exact ⟨1, by go_num, by omega, Hoa.out.drewN _, (Hon.out.drewN _).congr (fun j _ => upto_keep (Hf.out) j), below_drewN hbq _⟩
              case measure => simp only [intOf]; omega
            · obtain ⟨m, rfl⟩ : ∃ m, k = m + 1 := ⟨k - 1, by omega⟩
              have hm : m < s.size := by omega
              have Hm := Lib.hid (get_data s m hm)
              have Hf := Lib.hid (pre_chr_succ Hi.out Hne42.out Hm.out)
              have hca := Hoa.out.cell (j := m) (by omega)
              cases hA : pre p.data.toList s.data.toList i m
              · have HA := Lib.hid hA
                rw [hA] at hca
                clear hA
                go_wp2_with fail
                go_quiet (fail)
                go_wp2_with fail
                go_roundw
                case rel => exact ⟨m + 1 + 1, by go_num, by omega, Hoa.out.drewN _, (Hon.out.drewN _).congr (fun j _ => upto_keep (by rw [Hf.out, HA.out]; rfl) j), below_drewN hbq _⟩
                case measure => simp only [intOf]; omega
              · have HA := Lib.hid hA
                rw [hA] at hca
                clear hA
                cases h63 : ((p[i].toNat : Int) == 63)
                · cases heq : ((p[i].toNat : Int) == (s[m].toNat : Int))
                  · have Hok := Lib.hid (okc_false h63 heq)
                    go_wp2_with fail
                    go_quiet (fail)
                    go_wp2_with fail
                    go_roundw
                    case rel => exact ⟨m + 1 + 1, by go_num, by omega, Hoa.out.drewN _, (Hon.out.drewN _).congr (fun j _ => upto_keep (by rw [Hf.out, Hok.out, Bool.and_false]) j), below_drewN hbq _⟩
                    case measure => simp only [intOf]; omega
                  · have Hok := Lib.hid (okc_same heq)
                    go_wp2_with fail
                    go_quiet (fail)
                    go_wp2_with fail
                    go_roundw
                    case rel => exact ⟨m + 1 + 1, by go_num, by omega, ((Hoa.out.drewN _).other hne _ _), ((Hon.out.drewN _).store _ _).congr (fun j _ => upto_set (by rw [Hf.out, HA.out, Hok.out]; rfl) j), (below_drewN hbq _).setCell (p := ⟨g2, _, none⟩) Hon.out.base_le _⟩
                    case measure => simp only [intOf]; omega
                · have Hok := Lib.hid (okc_mark (c := s[m]) h63)
                  go_wp2_with fail
                  go_quiet (fail)
                  go_wp2_with fail
                  go_roundw
                  case rel => exact ⟨m + 1 + 1, by go_num, by omega, ((Hoa.out.drewN _).other hne _ _), ((Hon.out.drewN _).store _ _).congr (fun j _ => upto_set (by rw [Hf.out, HA.out, Hok.out]; rfl) j), (below_drewN hbq _).setCell (p := ⟨g2, _, none⟩) Hon.out.base_le _⟩
                  case measure => simp only [intOf]; omega
          · have H42 : Hid (p.data.toList[i]? = some 42) := Lib.hid (by rw [Hi.out]; exact congrArg some (by have := (u8_eq_num (a := p[i]) (n := 42) (by omega)).symm.trans h42; simpa using this))
            rcases Nat.eq_zero_or_pos k with rfl | hk0
            · have hd0 : decide ((0 : Int) < 0) = false := by decide
              have Hf := Lib.hid (pre_star_zero (s := s.data.toList) H42.out)
              have hca := Hoa.out.cell hkl
              cases hA : pre p.data.toList s.data.toList i 0
              all_goals
                have HA := Lib.hid hA
                rw [hA] at hca
                clear hA
                go_wp2_with fail
                go_roundw
                case rel => exact ⟨1, by go_num, by omega, (Hoa.out.other hne _ _), (Hon.out.store _ _).congr (fun j _ => upto_set (by rw [Hf.out, HA.out]) j), hbq.setCell (p := ⟨g2, _, none⟩) Hon.out.base_le _⟩
                case measure => simp only [intOf]; omega
            · obtain ⟨m, rfl⟩ : ∃ m, k = m + 1 := ⟨k - 1, by omega⟩
              have hm : m < s.size := by omega
              have Hm := Lib.hid (get_data s m hm)
              have Hf := Lib.hid (pre_star_succ H42.out Hm.out)
              have hca := Hoa.out.cell hkl
              have hcn := Hon.out.cell (j := m) (by omega)
              rw [upto_lt (Nat.lt_succ_self m)] at hcn
              cases hA : pre p.data.toList s.data.toList i (m + 1)
              · have HA := Lib.hid hA
                rw [hA] at hca
                clear hA
                cases hN : pre p.data.toList s.data.toList (i + 1) m
                all_goals
                  have HN := Lib.hid hN
                  rw [hN] at hcn
                  clear hN
                  go_wp2_with fail
                  go_roundw
                  case rel => exact ⟨m + 1 + 1, by go_num, by omega, (Hoa.out.other hne _ _), (Hon.out.store _ _).congr (fun j _ => upto_set (by rw [Hf.out, HA.out, HN.out]; rfl) j), hbq.setCell (p := ⟨g2, _, none⟩) Hon.out.base_le _⟩
                  case measure => simp only [intOf]; omega
              · have HA := Lib.hid hA
                rw [hA] at hca
                clear hA
                go_wp2_with fail
                go_roundw
                case rel => exact ⟨m + 1 + 1, by go_num, by omega, (Hoa.out.other hne _ _), (Hon.out.store _ _).congr (fun j _ => upto_set (by rw [Hf.out, HA.out]; rfl) j), hbq.setCell (p := ⟨g2, _, none⟩) Hon.out.base_le _⟩
                case measure => simp only [intOf]; omega
        · obtain rfl : k = s.size + 1 := by omega
          have hgt : ¬ ((s.size : Int) + 1 ≤ s.size) := by omega
          go_wp2_with fail
          go_roundw
          case rel => exact ⟨i + 1, g2, rfl, by go_num, by omega, Hon.out.congr (fun j hj => upto_lt hj), hbq⟩
          case measure => simp only [intOf]; omega
    · obtain rfl : i = p.size := by omega
      have hc := hown.cell (j := s.size) (by omega)
      have He : Hid (pre p.data.toList s.data.toList p.size s.size = wild p.data.toList s.data.toList) := Lib.hid (by
        unfold pre; rw [List.take_of_length_le (by rw [len_data]; omega), List.take_of_length_le (by rw [len_data]; omega)])
      rw [He.out] at hc
      go_wp2_with fail
      go_ret
      exact ⟨rfl, hb⟩
end Go.Proofs.YtabobdmgjmgifaaDoor
