/-
  Data that came in, of plain types and slices and structs of them, told as rows in memory.
-/
import Derived.Test.YthknljeffpbbmaaGreatDoorMSame0
import Derived.ChangeArms
namespace Go.Proofs.YthknljeffpbbmaaGreatDoor
open Go Go.RowKit

mutual
def toDat {H : Type} : DataW H → List Dat
  | .lit (.int q n) => [.one (.int q n)]
  | .lit (.bool b) => [.one (.bool b)]
  | .lit (.string bs) => [.one (.string ⟨bs.toArray⟩)]
  | .nil => [.row []]
  | .slice es _ => [.row (toDatR es)]
  | .agg ps => toDatC ps
  | _ => []
def toDatR {H : Type} : List (DataW H) → List (List Dat)
  | [] => []
  | d :: t => toDat d :: toDatR t
def toDatC {H : Type} : List (DataW H) → List Dat
  | [] => []
  | d :: t => toDat d ++ toDatC t
end
theorem toDatR_map {H : Type} (l : List (DataW H)) : toDatR l = l.map toDat := by
  induction l with
  | nil => simp [toDatR]
  | cons n t ih => simp [toDatR, ih]

theorem AggAt.append {F : Nat → Prop} {w : World} {ds es : List Dat} {cs us : List Value} (h : AggAt F w ds cs) (k : AggAt F w es us) : AggAt F w (ds ++ es) (cs ++ us) := by
  induction ds generalizing cs with
  | nil => rw [h.nil_inv]; exact k
  | cons d t ih =>
    obtain ⟨c, cs', rfl, h1, h2⟩ := h.cons_inv
    exact .cons h1 (ih h2)

section
variable {H : Type} {enc : TypeId × Value → H} {P : Program} {W : World}
/-- The fields lie one behind the other. -/
def offsOk (P : Program) : List Field → Nat → Nat → Bool
  | [], o, n => o == n
  | f :: r, o, n => f.offset == o && offsOk P r (o + P.cellsOf f.type) n
/-- A type among some, whose parts are of these types too. -/
def okT (P : Program) (T : List TypeId) (t : TypeId) : Bool :=
  match P.underlying t with
  | some (.int _) => true
  | some .bool => true
  | some .string => true
  | some (.slice e) => T.contains e && decide (0 < P.cellsOf e)
  | some (.struct fs) => fs.toList.all (fun f => T.contains f.type) && offsOk P fs.toList 0 (P.cellsOf t)
  | _ => false

theorem mapM_get {α β : Type} {f : α → Option β} : ∀ {l : List α} {r : List β}, l.mapM f = some r → r.length = l.length ∧ ∀ (i : Nat) x, l[i]? = some x → f x = r[i]?
  | [], r, h => by
    simp at h
    subst h
    exact ⟨rfl, fun i x hx => by simp at hx⟩
  | a :: t, r, h => by
    rw [List.mapM_cons] at h
    cases ha : f a with
    | none => rw [ha] at h; simp at h
    | some b =>
      rw [ha] at h
      cases ht : t.mapM f with
      | none => rw [ht] at h; simp at h
      | some r' =>
        rw [ht] at h
        simp at h
        subst h
        obtain ⟨h1, h2⟩ := mapM_get ht
        refine ⟨by simp [h1], fun i x hx => ?_⟩
        cases i with
        | zero => simp at hx; subst hx; simpa using ha
        | succ i => simpa using h2 i x (by simpa using hx)

theorem cells_get {w : World} {a : Addr} {n : Nat} {cs : List Value} (h : w.cells? 0 a n = some cs) : cs.length = n ∧ ∀ (i : Nat) u, cs[i]? = some u → w.cell? (a.add i) = some u := by
  unfold World.cells? at h
  rw [if_pos (Nat.zero_le _)] at h
  obtain ⟨h1, h2⟩ := mapM_get h
  rw [List.length_range] at h1
  refine ⟨h1, fun i u hu => ?_⟩
  have hi := (List.getElem?_eq_some_iff.1 hu).1
  have hr : (List.range n)[i]? = some i := List.getElem?_range (by omega)
  rw [h2 i i hr, hu]

theorem spot_of_cell {w : World} {a : Addr} {v : Value} (h : w.cell? a = some v) : a.spot = none := by
  unfold World.cell? at h
  split at h
  · split at h
    · cases h
    · rename_i hs; simpa using hs
  · cases h
theorem block_lt_of_cell {w : World} {a : Addr} {v : Value} (h : w.cell? a = some v) : a.block < w.heap.size := by
  unfold World.cell? at h
  split at h
  · rename_i hb
    exact (Array.getElem?_eq_some_iff.1 hb).1
  · cases h

/-- What came in, as rows in memory. -/
theorem dat_of_trod {T : List TypeId} (hT : T.all (okT P T) = true) : ∀ (fuel : Nat) (t : TypeId) (cs : List Value) (d : DataW H) (ps : List MemPlace), t ∈ T → DataW.trod enc P W 0 (fun _ => true) true fuel t cs = some (d, ps) → AggAt (fun b => b < W.heap.size) W (toDat d) cs := by
  intro fuel
  induction fuel with
  | zero => intro t cs d ps _ h; simp [DataW.trod] at h
  | succ fuel ih =>
    intro t cs d ps ht h
    have hok := List.all_eq_true.1 hT t ht
    unfold okT at hok
    split at hok
    · rename_i q hu
      obtain ⟨n, rfl, hx, -⟩ := DataW.trod_int hu h
      cases hx
      rw [toDat]
      exact .cons (.one _) .nil
    · rename_i hu
      obtain ⟨n, rfl, hx⟩ := DataW.trod_bool hu h
      cases hx
      rw [toDat]
      exact .cons (.one _) .nil
    · rename_i hu
      obtain ⟨s, rfl, hx, -⟩ := DataW.trod_string hu h
      cases hx
      rw [toDat]
      exact .cons (.one _) .nil
    · rename_i e hu
      simp only [Bool.and_eq_true, decide_eq_true_eq, List.contains_iff_mem] at hok
      obtain ⟨he, hsz⟩ := hok
      rcases DataW.trod_slice hu h with ⟨rfl, hx⟩ | ⟨a, len, cap, elems, rest, n, hn, rfl, hx, -, hl, hm, hlen, hel, -, -⟩
      · cases hx
        rw [toDat]
        exact .cons (DatAt.row_mk (l := []) 0 (RowAt.nil none)) .nil
      · cases hx
        cases hn
        rw [toDat]
        have hrl : (toDatR (elems.map (·.1))).length = len := by rw [toDatR_map, List.length_map, List.length_map, hlen]
        refine .cons ?_ .nil
        rw [← hrl]
        refine DatAt.row_mk cap (fun j ds hj => ?_)
        rw [toDatR_map, List.getElem?_map, List.getElem?_map] at hj
        cases hej : elems[j]? with
        | none => rw [hej] at hj; cases hj
        | some y =>
          rw [hej] at hj
          simp only [Option.map_some, Option.some.injEq] at hj
          subst hj
          have hjl : j < len := by rw [← hlen]; exact (List.getElem?_eq_some_iff.1 hej).1
          have h1 := hel j hjl
          rw [hej] at h1
          cases hcs : W.cells? 0 (a.add (j * P.cellsOf e)) (P.cellsOf e) with
          | none => rw [hcs] at h1; cases h1
          | some us =>
            rw [hcs] at h1
            have h2 := ih e us y.1 y.2 he h1
            obtain ⟨h3, h4⟩ := cells_get hcs
            have h5 := h4 0 (us[0]'(by omega)) (List.getElem?_eq_getElem (by omega))
            have h0l : 0 < len := by omega
            have h10 := hel 0 h0l
            have he0 : elems[0]? = some (elems[0]'(by omega)) := List.getElem?_eq_getElem _
            rw [he0] at h10
            obtain ⟨b, off, spot⟩ := a
            have hsp : spot = none := by
              cases hc0 : W.cells? 0 ((⟨b, off, spot⟩ : Addr).add (0 * P.cellsOf e)) (P.cellsOf e) with
              | none => rw [hc0] at h10; cases h10
              | some vs =>
                obtain ⟨h30, h40⟩ := cells_get hc0
                have h50 := h40 0 (vs[0]'(by omega)) (List.getElem?_eq_getElem (by omega))
                have := spot_of_cell h50
                simpa [Addr.add] using this
            subst hsp
            have hadd : ∀ k, (⟨b, off, none⟩ : Addr).add k = ⟨b, off + k, none⟩ := fun k => by unfold Addr.add; split <;> simp_all
            have hbl : b < W.heap.size := by
              have := block_lt_of_cell h5
              rw [hadd, show ∀ o k, (⟨b, o, none⟩ : Addr).add k = ⟨b, o + k, none⟩ from fun o k => by unfold Addr.add; split <;> simp_all] at this
              exact this
            refine ⟨b, off, us, rfl, hbl, hbl, h2, fun i u hu => ?_⟩
            have h6 := h4 i u hu
            rw [hadd, show ∀ o k, (⟨b, o, none⟩ : Addr).add k = ⟨b, o + k, none⟩ from fun o k => by unfold Addr.add; split <;> simp_all] at h6
            rw [← h2.1, h3]
            exact h6
    · rename_i fs hu
      simp only [Bool.and_eq_true] at hok
      obtain ⟨hall, hoff⟩ := hok
      obtain ⟨xs, n, hn, hx, hl, hxl, hf⟩ := DataW.trod_struct hu h
      cases hx
      cases hn
      rw [toDat]
      have key : ∀ (fl : List Field) (ys : List (DataW H × List MemPlace)) (o : Nat), ys.length = fl.length → fl.all (fun f => T.contains f.type) = true → offsOk P fl o (P.cellsOf t) = true →
          (∀ (i : Nat) f, fl[i]? = some f → DataW.trod enc P W 0 (fun _ => true) true fuel f.type ((cs.drop f.offset).take (P.cellsOf f.type)) = ys[i]?) → o ≤ cs.length → AggAt (fun b => b < W.heap.size) W (toDatC (ys.map (·.1))) (cs.drop o) := by
        intro fl
        induction fl with
        | nil =>
          intro ys o hy _ ho _ hle
          have : ys = [] := List.length_eq_zero_iff.1 hy
          subst this
          simp only [offsOk, beq_iff_eq] at ho
          rw [List.drop_of_length_le (by omega)]
          simp only [List.map_nil, toDatC]
          exact .nil
        | cons f r ih2 =>
          intro ys o hy ha ho hg hle
          cases ys with
          | nil => simp at hy
          | cons y yr =>
            simp only [offsOk, Bool.and_eq_true, beq_iff_eq] at ho
            obtain ⟨ho1, ho2⟩ := ho
            simp only [List.all_cons, Bool.and_eq_true, List.contains_iff_mem] at ha
            have h1 := hg 0 f rfl
            rw [ho1] at h1
            have h2 := ih f.type _ y.1 y.2 ha.1 h1
            have hsz : ((cs.drop o).take (P.cellsOf f.type)).length = (toDat y.1).length := h2.1
            have hle2 : o + P.cellsOf f.type ≤ cs.length := by
              have mono : ∀ (l : List Field) (o n : Nat), offsOk P l o n = true → o ≤ n := by
                intro l
                induction l with
                | nil => intro o n h; simp only [offsOk, beq_iff_eq] at h; omega
                | cons g r ih3 =>
                  intro o n h
                  simp only [offsOk, Bool.and_eq_true, beq_iff_eq] at h
                  have := ih3 _ _ h.2
                  omega
              have := mono _ _ _ ho2
              omega
            have h3 := ih2 yr (o + P.cellsOf f.type) (by simpa using hy) ha.2 ho2 (fun i g hgi => by simpa using hg (i + 1) g (by simpa using hgi)) hle2
            have hsplit : cs.drop o = (cs.drop o).take (P.cellsOf f.type) ++ cs.drop (o + P.cellsOf f.type) := by
              rw [← List.drop_drop, List.take_append_drop]
            rw [hsplit, List.map_cons, toDatC]
            exact h2.append h3
      have := key fs.toList xs 0 (by simpa using hxl) hall hoff (fun i f hfi => hf i f (by simpa using hfi)) (Nat.zero_le _)
      simpa using this
    · cases hok
end
end Go.Proofs.YthknljeffpbbmaaGreatDoor
