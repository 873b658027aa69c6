/-
  The plain host's join, lines, sorted and len, called by their names.
  What the statement EvalLists holds in memory on its way.
-/
import Derived.Test.YtmmflgbhgjefmaaGreatDoorCallP
import Derived.Test.YtmmflgbhgjefmaaGreatDoorLines
import Derived.Test.YtmmflgbhgjefmaaGreatDoorMRefTexts
namespace Go.Proofs.YtmmflgbhgjefmaaGreatDoor
open Go Go.RowKit

def listV (ts : List ByteArray) : Vl := .mk 4 0 ⟨#[]⟩ (strsV ts) []
theorem mayVs_strs : ∀ (ts : List ByteArray) (m : Int), (∀ s ∈ ts, s.size ≤ 65536) → (ts.length : Int) ≤ m → mayVs (strsV ts) 2 m = (true, m - ts.length)
  | [], m, _, _ => by simp [strsV, mayVs]
  | s :: t, m, h, hm => by
    have hs := h s (List.mem_cons_self ..)
    have ht := mayVs_strs t (m - 1) (fun x hx => h x (List.mem_cons_of_mem _ hx)) (by simp at hm; omega)
    have hv : mayV (strVl s) 2 m = (true, m - 1) := by
      unfold strVl
      rw [mayV]
      have h1 : ¬ ((60 : Int) < 2 ∨ m - 1 < 0) := by simp at hm; omega
      rw [if_neg h1]
      have h2 : nodeOk 3 0 s [] [] = true := by simp [nodeOk, hs]
      rw [if_pos h2]
      simp [mayVs]
    have hc : strsV (s :: t) = strVl s :: strsV t := rfl
    rw [hc, mayVs, hv]
    simp only [if_true]
    rw [ht]
    simp
    omega
theorem check_list {ts : List ByteArray} (h : ∀ s ∈ ts, s.size ≤ 65536) (hl : ts.length ≤ 1000) : checkV (listV ts) = true := by
  unfold checkV listV
  rw [mayV]
  have h1 : ¬ ((60 : Int) < 1 ∨ (20000 : Int) - 1 < 0) := by omega
  rw [if_neg h1]
  have h2 : nodeOk 4 0 ⟨#[]⟩ (strsV ts) [] = true := by
    have h3 : (⟨#[]⟩ : ByteArray).toList = [] := by rw [Lib.toList_data]
    simp [nodeOk, h3, strsV, hl]
  rw [if_pos h2]
  have := mayVs_strs ts 19999 h (by omega)
  show (mayVs (strsV ts) 2 19999).1 = true
  rw [this]
theorem texts_list {ts : List ByteArray} (h : checkV (listV ts) = true) : textsL (listV ts) = some ts := by
  unfold textsL
  have h1 : (listV ts).items.all (fun x => x.kind == 3) = true := by
    rw [List.all_eq_true]
    intro x hx
    obtain ⟨s, -, rfl⟩ := List.mem_map.1 hx
    rfl
  rw [if_pos ⟨rfl, h, h1⟩]
  show some ((ts.map strVl).map Vl.str) = some ts
  rw [List.map_map]
  exact congrArg some (List.map_id ts)
theorem join_knows : Knows ⟨#[106, 111, 105, 110]⟩ 2 205 := fun b1 b2 b3 => ⟨by simp [callsM, callsHead, strK], fun v hv => by simpa [callsM, callsHead, strK] using hv⟩
theorem host_join (ts : List ByteArray) (sep : ByteArray) (hfit : (ts.length - 1) * sep.size + sumS ts ≤ 65536) (F : Nat → Prop) (a : Option Addr) (cap : Nat) (ln cl : Int) (w : World) (hr : RowAt F w a (namedsD [(⟨#[]⟩, strVl sep), (⟨#[]⟩, listV ts)])) (hF : ∀ b, F b → b < w.heap.size) (hz : ∀ s ∈ ts, s.size ≤ 65536) (hl : ts.length ≤ 1000) :
    Calls Tryz.prog 202 #[.agg #[], .agg #[.string ⟨#[106, 111, 105, 110]⟩, .slice a 2 cap, .int .i64 ln, .int .i64 cl]] w (PCall (.ok (strVl (joinB ts sep))) w) := by
  have hck := check_list hz hl
  have hsm := check_small hck
  have htx := texts_list hck
  refine plain_call 205 ⟨#[106, 111, 105, 110]⟩ (by decide) [(⟨#[]⟩, strVl sep), (⟨#[]⟩, listV ts)] join_knows (fun args w => enters_of Tryz.func205 (by kernel_rfl) rfl args w) (.ok (strVl (joinB ts sep))) F a cap ln cl w hr hF (fun q hq => ?_) (by simp) (fun G a' cap' W hG hr' _ => ?_)
  · simp only [List.mem_cons, List.not_mem_nil, or_false] at hq
    rcases hq with rfl | rfl <;> rfl
  · exact join_fits G 0 0 sep ⟨#[]⟩ (strsV ts) [] ts a' cap' W hG hr' hsm htx hl hfit
theorem lines_knows : Knows ⟨#[108, 105, 110, 101, 115]⟩ 1 206 := fun b1 b2 b3 => ⟨by simp [callsM, callsHead, strK], fun v hv => by simpa [callsM, callsHead, strK] using hv⟩
theorem host_lines (ts : List ByteArray) (hfit : totL ts ≤ 65536) (F : Nat → Prop) (a : Option Addr) (cap : Nat) (ln cl : Int) (w : World) (hr : RowAt F w a (namedsD [(⟨#[]⟩, listV ts)])) (hF : ∀ b, F b → b < w.heap.size) (hz : ∀ s ∈ ts, s.size ≤ 65536) (hl : ts.length ≤ 1000) :
    Calls Tryz.prog 202 #[.agg #[], .agg #[.string ⟨#[108, 105, 110, 101, 115]⟩, .slice a 1 cap, .int .i64 ln, .int .i64 cl]] w (PCall (.ok (strVl (linesB ts))) w) := by
  have hck := check_list hz hl
  have hsm := check_small hck
  have htx := texts_list hck
  refine plain_call 206 ⟨#[108, 105, 110, 101, 115]⟩ (by decide) [(⟨#[]⟩, listV ts)] lines_knows (fun args w => enters_of Tryz.func206 (by kernel_rfl) rfl args w) (.ok (strVl (linesB ts))) F a cap ln cl w hr hF (fun q hq => ?_) (by simp) (fun G a' cap' W hG hr' _ => ?_)
  · simp only [List.mem_cons, List.not_mem_nil, or_false] at hq
    rw [hq]
  · exact lines_fits G 0 ⟨#[]⟩ (strsV ts) [] ts a' cap' W hG hr' hsm htx hl hfit
theorem sorted_knows : Knows ⟨#[115, 111, 114, 116, 101, 100]⟩ 1 207 := fun b1 b2 b3 => ⟨by simp [callsM, callsHead, strK], fun v hv => by simpa [callsM, callsHead, strK] using hv⟩
theorem host_sorted (ts : List ByteArray) (F : Nat → Prop) (a : Option Addr) (cap : Nat) (ln cl : Int) (w : World) (hr : RowAt F w a (namedsD [(⟨#[]⟩, listV ts)])) (hF : ∀ b, F b → b < w.heap.size) (hz : ∀ s ∈ ts, s.size ≤ 65536) (hl : ts.length ≤ 1000) :
    Calls Tryz.prog 202 #[.agg #[], .agg #[.string ⟨#[115, 111, 114, 116, 101, 100]⟩, .slice a 1 cap, .int .i64 ln, .int .i64 cl]] w (PCall (.ok (listV (sortL ts))) w) := by
  have hck := check_list hz hl
  have hsm := check_small hck
  have htx := texts_list hck
  refine plain_call 207 ⟨#[115, 111, 114, 116, 101, 100]⟩ (by decide) [(⟨#[]⟩, listV ts)] sorted_knows (fun args w => enters_of Tryz.func207 (by kernel_rfl) rfl args w) (.ok (listV (sortL ts))) F a cap ln cl w hr hF (fun q hq => ?_) (by simp) (fun G a' cap' W hG hr' _ => ?_)
  · simp only [List.mem_cons, List.not_mem_nil, or_false] at hq
    rw [hq]
  · exact sorted_texts G 0 ⟨#[]⟩ (strsV ts) [] ts a' cap' W hG hr' hsm htx hl
theorem len_knows : Knows ⟨#[108, 101, 110]⟩ 1 204 := fun b1 b2 b3 => ⟨by simp [callsM, callsHead, strK], fun v hv => by simpa [callsM, callsHead, strK] using hv⟩
theorem host_len (ts : List ByteArray) (F : Nat → Prop) (a : Option Addr) (cap : Nat) (ln cl : Int) (w : World) (hr : RowAt F w a (namedsD [(⟨#[]⟩, listV ts)])) (hF : ∀ b, F b → b < w.heap.size) (hz : ∀ s ∈ ts, s.size ≤ 65536) (hl : ts.length ≤ 1000) :
    Calls Tryz.prog 202 #[.agg #[], .agg #[.string ⟨#[108, 101, 110]⟩, .slice a 1 cap, .int .i64 ln, .int .i64 cl]] w (PCall (.ok (.mk 2 ts.length ⟨#[]⟩ [] [])) w) := by
  have hck := check_list hz hl
  have hsm := check_small hck
  have htx := texts_list hck
  refine plain_call 204 ⟨#[108, 101, 110]⟩ (by decide) [(⟨#[]⟩, listV ts)] len_knows (fun args w => enters_of Tryz.func204 (by kernel_rfl) rfl args w) (.ok (.mk 2 ts.length ⟨#[]⟩ [] [])) F a cap ln cl w hr hF (fun q hq => ?_) (by simp) (fun G a' cap' W hG hr' _ => ?_)
  · simp only [List.mem_cons, List.not_mem_nil, or_false] at hq
    rw [hq]
  · have h := length_list G 0 ⟨#[]⟩ (strsV ts) [] a' cap' W hr' (by unfold strsV; rw [List.length_map]; omega)
    have he : lengthL (.mk 4 0 ⟨#[]⟩ (strsV ts) []) = .ok (.mk 2 ts.length ⟨#[]⟩ [] []) := by simp [lengthL, Vl.kind, Vl.items, strsV]
    rw [he] at h
    exact h
end Go.Proofs.YtmmflgbhgjefmaaGreatDoor
namespace Go.Proofs.YtmmflgbhgjefmaaGreatDoor
open Go Go.RowKit

def nCells (aL : Option Addr) (n cL : Nat) : Array Value := #[.string ⟨#[]⟩, .int .i64 4, .int .i64 0, .string ⟨#[]⟩, .slice aL n cL, .slice none 0 0]
theorem strsV_len (l : List ByteArray) : (strsV l).length = l.length := by unfold strsV; rw [List.length_map]
theorem named_list {F : Nat → Prop} {W : World} {aL : Option Addr} {l : List ByteArray} (cL : Nat) (hr : RowAt F W aL (valsD (strsV l))) : AggAt F W (namedD (⟨#[]⟩, listV l)) [.string ⟨#[]⟩, .int .i64 4, .int .i64 0, .string ⟨#[]⟩, .slice aL l.length cL, .slice none 0 0] := by
  have := AggAt.named_mk (l := strsV l) (ks := []) ⟨#[]⟩ 4 0 ⟨#[]⟩ cL 0 hr (RowAt.nil (F := F) (w := W) none)
  rw [strsV_len] at this
  exact this
theorem row_one {F : Nat → Prop} {W : World} {b : Nat} {aL : Option Addr} {l : List ByteArray} {cL : Nat} (hb : W.heap[b]? = some (.cells (nCells aL l.length cL) 33 (0, 0))) (hr : RowAt F W aL (valsD (strsV l))) :
    RowAt (fun k => F k ∨ k = b) W (some ⟨b, 0, none⟩) (namedsD [(⟨#[]⟩, listV l)]) := by
  intro j ds hj
  obtain ⟨hlt, hc, -⟩ := block_facts hb
  cases j with
  | zero =>
    simp [namedsD] at hj
    subst hj
    refine ⟨b, 0, _, rfl, .inr rfl, hlt, (named_list cL hr).wider (fun k hk _ => .inl hk), fun i u hu => ?_⟩
    rw [Nat.zero_mul, Nat.zero_add, hc]
    unfold nCells
    simpa using hu
  | succ j => simp [namedsD] at hj
theorem row_two {F : Nat → Prop} {W : World} {b : Nat} {aL : Option Addr} {l : List ByteArray} {cL : Nat} {sep : ByteArray} (hb : W.heap[b]? = some (.cells #[.string ⟨#[]⟩, .int .i64 3, .int .i64 0, .string sep, .slice none 0 0, .slice none 0 0, .string ⟨#[]⟩, .int .i64 4, .int .i64 0, .string ⟨#[]⟩, .slice aL l.length cL, .slice none 0 0] 33 (0, 0))) (hr : RowAt F W aL (valsD (strsV l))) :
    RowAt (fun k => F k ∨ k = b) W (some ⟨b, 0, none⟩) (namedsD [(⟨#[]⟩, strVl sep), (⟨#[]⟩, listV l)]) := by
  intro j ds hj
  obtain ⟨hlt, hc, -⟩ := block_facts hb
  cases j with
  | zero =>
    simp [namedsD] at hj
    subst hj
    refine ⟨b, 0, [.string ⟨#[]⟩, .int .i64 3, .int .i64 0, .string sep, .slice none 0 0, .slice none 0 0], rfl, .inr rfl, hlt, AggAt.named_mk (l := []) (ks := []) _ _ _ _ _ _ (RowAt.nil _) (RowAt.nil _), fun i u hu => ?_⟩
    rw [Nat.zero_mul, Nat.zero_add, hc]
    have hi := (List.getElem?_eq_some_iff.1 hu).1
    simp only [List.length_cons, List.length_nil] at hi
    match i, hi with
    | 0, _ => simpa using hu
    | 1, _ => simpa using hu
    | 2, _ => simpa using hu
    | 3, _ => simpa using hu
    | 4, _ => simpa using hu
    | 5, _ => simpa using hu
  | succ j =>
    cases j with
    | zero =>
      simp [namedsD] at hj
      subst hj
      refine ⟨b, 0, _, rfl, .inr rfl, hlt, (named_list cL hr).wider (fun k hk _ => .inl hk), fun i u hu => ?_⟩
      rw [namedD_len, Nat.zero_add, Nat.zero_add, Nat.one_mul, hc]
      have hi := (List.getElem?_eq_some_iff.1 hu).1
      simp only [List.length_cons, List.length_nil] at hi
      match i, hi with
      | 0, _ => simpa using hu
      | 1, _ => simpa using hu
      | 2, _ => simpa using hu
      | 3, _ => simpa using hu
      | 4, _ => simpa using hu
      | 5, _ => simpa using hu
    | succ j => simp [namedsD] at hj

theorem sumS_tot : ∀ l : List ByteArray, sumS l ≤ totL l
  | [] => Nat.le_refl _
  | x :: t => by
    have := sumS_tot t
    unfold sumS totL at *
    rw [List.map_cons, List.sum_cons, List.map_cons, List.sum_cons]
    omega
theorem lists_fit {l : List ByteArray} {sep : ByteArray} (hl : l.length ≤ 100) (hs : sep.size ≤ 100) (ht : totL l ≤ 3000) : (l.length - 1) * sep.size + sumS l ≤ 65536 := by
  have h1 : (l.length - 1) * sep.size ≤ 99 * 100 := Nat.mul_le_mul (by omega) hs
  have h2 := sumS_tot l
  omega
theorem joinGo_le {l : List ByteArray} {sep : ByteArray} (hl : l.length ≤ 100) (hs : sep.size ≤ 100) (ht : totL l ≤ 3000) {j : Nat} (hj : j ≤ l.length) : (joinGo sep l j).size ≤ 65536 := by
  have h1 := congrArg List.length (joinGo_join sep l j hj)
  rw [len_data, join_len, List.length_map, List.map_map, len_data] at h1
  have h2 : ((l.take j).map (List.length ∘ fun x : ByteArray => x.data.toList)).sum = sumS (l.take j) := by
    unfold sumS
    congr 1
  rw [h2] at h1
  have h3 := sumS_le l j
  have h4 := sumS_tot l
  have h5 : ((l.take j).length - 1) * sep.size ≤ 99 * 100 := Nat.mul_le_mul (by rw [List.length_take]; omega) hs
  omega
theorem linesGo_le {l : List ByteArray} (ht : totL l ≤ 3000) {j : Nat} (hj : j ≤ l.length) : (linesGo l j).size ≤ 65536 := by
  have h1 := congrArg List.length (linesGo_data l j hj)
  rw [len_data, lines_len] at h1
  have := totL_le l j
  omega
structure LS (w : World) (a : Option Addr) (l : List ByteArray) (nb : Nat) (aL : Option Addr) (cL : Nat) (W : World) : Prop where
  n : W.heap[nb]? = some (.cells (nCells aL l.length cL) 33 (0, 0))
  below : Below w.heap.size w W
  row : RowAt (fun b => b < nb) W aL (valsD (strsV l))
  strs : StrsAt W a l
theorem LS.later {w W W' : World} {a : Option Addr} {l : List ByteArray} {nb : Nat} {aL : Option Addr} {cL : Nat} (h : LS w a l nb aL cL W) (hb : Below W.heap.size W W') : LS w a l nb aL cL W' :=
  ⟨stays h.n hb, h.below.trans (hb.mono h.below.size), h.row.below hb, h.strs.below hb⟩
theorem six_facts {w : World} {b : Nat} {c0 c1 c2 c3 c4 c5 : Value} {t : TypeId} (h : w.heap[b]? = some (.cells #[c0, c1, c2, c3, c4, c5] t (0, 0))) :
    b < w.heap.size ∧ w.cell? ⟨b, 0, none⟩ = some c0 ∧ w.cell? ⟨b, 1, none⟩ = some c1 ∧ w.cell? ⟨b, 2, none⟩ = some c2 ∧ w.cell? ⟨b, 3, none⟩ = some c3 ∧ w.cell? ⟨b, 4, none⟩ = some c4 ∧ w.cell? ⟨b, 5, none⟩ = some c5 := by
  obtain ⟨h1, h2, h3⟩ := block_facts h
  exact ⟨h1, h2 0, h2 1, h2 2, h2 3, h2 4, h2 5⟩
end Go.Proofs.YtmmflgbhgjefmaaGreatDoor
