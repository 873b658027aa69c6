/-
  Rules, declarations and nodes that came in.
  A rule, and a declaration, that came in as an argument.
-/
import Derived.Test.YthknljeffpbbmaaGreatDoorOpenVal
import Derived.Test.YthknljeffpbbmaaGreatDoorMBindFits
import Derived.Test.YthknljeffpbbmaaGreatDoorMSame0
namespace Go.Proofs.YthknljeffpbbmaaGreatDoor
open Go Go.RowKit

section
variable {H : Type} {enc : TypeId × Value → H} {P : Program} {W : World}
theorem bool_of_trod {t : TypeId} (ht : P.underlying t = some .bool) {fuel : Nat} {cs : List Value} {d : DataW H} {ps : List MemPlace} (h : DataW.trod enc P W 0 (fun _ => true) true fuel t cs = some (d, ps)) :
    ∃ b : Bool, toDat d = [.one (.bool b)] := by
  obtain ⟨b, rfl, hx⟩ := DataW.trod_bool ht h
  cases hx
  exact ⟨b, by rw [toDat]⟩
theorem cap_of_trod {t e : TypeId} (ht : P.underlying t = some (.slice e)) {fuel : Nat} {cs : List Value} {x : DataW H × List MemPlace} (h : DataW.trod enc P W 0 (fun _ => true) true fuel t cs = some x) :
    ∃ a len cap, cs = [.slice a len cap] ∧ len ≤ cap := by
  rcases DataW.trod_slice ht h with ⟨rfl, -⟩ | ⟨a, len, cap, elems, rest, n, hn, rfl, hx, -, hl, -⟩
  · exact ⟨none, 0, 0, rfl, Nat.le_refl _⟩
  · exact ⟨_, _, _, rfl, hl⟩
theorem agg_of_cells {v : Value} {cs : List Value} (h : v.cells.toList = cs) (hn : cs.length ≠ 1) : v = .agg cs.toArray := by
  cases v with
  | agg a => simp only [Value.cells] at h; rw [← h]
  | _ => subst h; exact absurd rfl hn
end

theorem bytesAttr : Tryz.prog.bytesOf 55 = 112 := by kernel_rfl
theorem bytesNamed : Tryz.prog.bytesOf 39 = 96 := by kernel_rfl
theorem bytesNode : Tryz.prog.bytesOf 83 = 64 := by kernel_rfl

set_option maxRecDepth 100000 in
theorem place_of_trod {H : Type} {enc : TypeId × Value → H} {W : World} (fuel : Nat) (cs : List Value) (d : DataW H) (ps : List MemPlace) (h : DataW.trod enc Tryz.prog W 0 (fun _ => true) true fuel 25 cs = some (d, ps)) :
    ∃ a b : Int, toDat d = [.one (.int .i64 a), .one (.int .i64 b)] := by
  obtain ⟨xs, n, rfl, hx, -, hxl, hf⟩ := DataW.trod_struct Tryz.underlying25 h
  cases hx
  match xs, hxl with
  | [y0, y1], _ =>
    have e0 := hf 0 _ rfl
    have e1 := hf 1 _ rfl
    obtain ⟨a, h0, -⟩ := int_of_trod Tryz.underlying3 (show DataW.trod enc Tryz.prog W 0 (fun _ => true) true n 3 _ = some (y0.1, y0.2) from e0)
    obtain ⟨b, h1, -⟩ := int_of_trod Tryz.underlying3 (show DataW.trod enc Tryz.prog W 0 (fun _ => true) true n 3 _ = some (y1.1, y1.2) from e1)
    exact ⟨a, b, by rw [toDat]; simp only [List.map_cons, List.map_nil, toDatC, h0, h1, List.append_nil, List.cons_append, List.nil_append]⟩

set_option maxRecDepth 100000 in
theorem attr_of_trod {H : Type} {enc : TypeId × Value → H} {W : World} (fuel : Nat) (cs : List Value) (d : DataW H) (ps : List MemPlace) (h : DataW.trod enc Tryz.prog W 0 (fun _ => true) true fuel 55 cs = some (d, ps)) (hw : ∀ k ∈ d.weights Tryz.prog 55, k ≤ reachBytes) :
    ∃ x : AttrP, toDat d = attrD x ∧ (x.name.size ≤ reachBytes ∧ smallV x.dflt) := by
  obtain ⟨xs, n, rfl, hx, -, hxl, hf⟩ := DataW.trod_struct Tryz.underlying55 h
  cases hx
  match xs, hxl with
  | [y0, y1, y2, y3], _ =>
    have e0 := hf 0 _ rfl
    have e1 := hf 1 _ rfl
    have e2 := hf 2 _ rfl
    have e3 := hf 3 _ rfl
    have hwe : ∀ k ∈ DataW.weightsEach Tryz.prog [9, 3, 4, 37] [y0.1, y1.1, y2.1, y3.1], k ≤ reachBytes := by
      intro k hk
      refine hw k ?_
      rw [DataW.weights, Tryz.underlying55]
      exact hk
    have hwj := fun (j : Nat) (t : TypeId) (y : DataW H) (h1 : ([9, 3, 4, 37] : List TypeId)[j]? = some t) (h2 : ([y0.1, y1.1, y2.1, y3.1] : List (DataW H))[j]? = some y) (k : Nat) (hk : k ∈ y.weights Tryz.prog t) => hwe k (DataW.weights_mem_each h1 h2 k hk)
    obtain ⟨s, h0, hs⟩ := str_of_trod Tryz.underlying9 (show DataW.trod enc Tryz.prog W 0 (fun _ => true) true n 9 _ = some (y0.1, y0.2) from e0) (hwj 0 _ _ rfl rfl)
    obtain ⟨k, h1, -⟩ := int_of_trod Tryz.underlying3 (show DataW.trod enc Tryz.prog W 0 (fun _ => true) true n 3 _ = some (y1.1, y1.2) from e1)
    obtain ⟨b, h2⟩ := bool_of_trod Tryz.underlying4 (show DataW.trod enc Tryz.prog W 0 (fun _ => true) true n 4 _ = some (y2.1, y2.2) from e2)
    obtain ⟨v, h3, hv⟩ := val_of_trod n _ y3.1 y3.2 e3 (hwj 3 _ _ rfl rfl)
    exact ⟨⟨s, k, b, v⟩, by rw [toDat]; simp only [List.map_cons, List.map_nil, toDatC, h0, h1, h2, h3, List.append_nil, List.cons_append, List.nil_append]; rfl, hs, hv⟩
set_option maxRecDepth 100000 in
theorem named_of_trod {H : Type} {enc : TypeId × Value → H} {W : World} (fuel : Nat) (cs : List Value) (d : DataW H) (ps : List MemPlace) (h : DataW.trod enc Tryz.prog W 0 (fun _ => true) true fuel 39 cs = some (d, ps)) (hw : ∀ k ∈ d.weights Tryz.prog 39, k ≤ reachBytes) :
    ∃ q : ByteArray × Vl, toDat d = namedD q ∧ (q.1.size ≤ reachBytes ∧ smallV q.2) := by
  obtain ⟨xs, n, rfl, hx, -, hxl, hf⟩ := DataW.trod_struct Tryz.underlying39 h
  cases hx
  match xs, hxl with
  | [y0, y3], _ =>
    have e0 := hf 0 _ rfl
    have e3 := hf 1 _ rfl
    have hwe : ∀ k ∈ DataW.weightsEach Tryz.prog [9, 37] [y0.1, y3.1], k ≤ reachBytes := by
      intro k hk
      refine hw k ?_
      rw [DataW.weights, Tryz.underlying39]
      exact hk
    have hwj := fun (j : Nat) (t : TypeId) (y : DataW H) (h1 : ([9, 37] : List TypeId)[j]? = some t) (h2 : ([y0.1, y3.1] : List (DataW H))[j]? = some y) (k : Nat) (hk : k ∈ y.weights Tryz.prog t) => hwe k (DataW.weights_mem_each h1 h2 k hk)
    obtain ⟨s, h0, hs⟩ := str_of_trod Tryz.underlying9 (show DataW.trod enc Tryz.prog W 0 (fun _ => true) true n 9 _ = some (y0.1, y0.2) from e0) (hwj 0 _ _ rfl rfl)
    obtain ⟨v, h3, hv⟩ := val_of_trod n _ y3.1 y3.2 e3 (hwj 1 _ _ rfl rfl)
    exact ⟨(s, v), by rw [toDat]; simp only [List.map_cons, List.map_nil, toDatC, h0, h3, List.append_nil, List.cons_append, List.nil_append]; rfl, hs, hv⟩
theorem fewNs_of : ∀ {l : List Nd}, (∀ v ∈ l, fewN v) → fewNs l
  | [], _ => by rw [fewNs]; trivial
  | v :: t, h => by rw [fewNs]; exact ⟨h v (List.mem_cons_self ..), fewNs_of fun x hx => h x (List.mem_cons_of_mem _ hx)⟩
set_option maxRecDepth 100000 in
theorem nd_of_trod {H : Type} {enc : TypeId × Value → H} {W : World} : ∀ (fuel : Nat) (cs : List Value) (d : DataW H) (ps : List MemPlace), DataW.trod enc Tryz.prog W 0 (fun _ => true) true fuel 83 cs = some (d, ps) → (∀ k ∈ d.weights Tryz.prog 83, k ≤ reachBytes) →
    ∃ n : Nd, toDat d = ndD n ∧ fewN n := by
  intro fuel
  induction fuel using Nat.strongRecOn with
  | _ fuel ih =>
    intro cs d ps h hw
    obtain ⟨xs, n, rfl, hx, -, hxl, hf⟩ := DataW.trod_struct Tryz.underlying83 h
    cases hx
    match xs, hxl with
    | [y0, y1, y2, y3], _ =>
      have e0 := hf 0 _ rfl
      have e1 := hf 1 _ rfl
      have e2 := hf 2 _ rfl
      have e3 := hf 3 _ rfl
      have hwe : ∀ k ∈ DataW.weightsEach Tryz.prog [3, 9, 25, 23] [y0.1, y1.1, y2.1, y3.1], k ≤ reachBytes := by
        intro k hk
        refine hw k ?_
        rw [DataW.weights, Tryz.underlying83]
        exact hk
      have hwj := fun (j : Nat) (t : TypeId) (y : DataW H) (h1 : ([3, 9, 25, 23] : List TypeId)[j]? = some t) (h2 : ([y0.1, y1.1, y2.1, y3.1] : List (DataW H))[j]? = some y) (k : Nat) (hk : k ∈ y.weights Tryz.prog t) => hwe k (DataW.weights_mem_each h1 h2 k hk)
      obtain ⟨k, h0, -⟩ := int_of_trod Tryz.underlying3 (show DataW.trod enc Tryz.prog W 0 (fun _ => true) true n 3 _ = some (y0.1, y0.2) from e0)
      obtain ⟨s, h1, hs⟩ := str_of_trod Tryz.underlying9 (show DataW.trod enc Tryz.prog W 0 (fun _ => true) true n 9 _ = some (y1.1, y1.2) from e1) (hwj 1 _ _ rfl rfl)
      obtain ⟨ln, cl, h2⟩ := place_of_trod n _ y2.1 y2.2 e2
      obtain ⟨l, h3, hl, hln⟩ := slice_of_trod ndD fewN Tryz.underlying23 (fun n' us y hn' hy hky => ih n' (by omega) us y.1 y.2 hy hky) (show DataW.trod enc Tryz.prog W 0 (fun _ => true) true n 23 _ = some (y3.1, y3.2) from e3) (hwj 3 _ _ rfl rfl)
      refine ⟨.mk k s ln cl l, ?_, ?_⟩
      · rw [toDat]
        simp only [List.map_cons, List.map_nil, toDatC, h0, h1, h2, h3, List.append_nil, List.cons_append, List.nil_append]
        rw [ndD, ndsD_map]
      · rw [bytesNode] at hln
        unfold reachBytes at hln
        rw [fewN]
        exact ⟨by omega, fewNs_of hl⟩
end Go.Proofs.YthknljeffpbbmaaGreatDoor
namespace Go.Proofs.YthknljeffpbbmaaGreatDoor
open Go Go.RowKit

def ruleTs : List TypeId := [27, 30, 39, 28, 55, 22, 37, 34, 35, 83, 23, 25, 9, 3, 2, 4]
theorem ruleTs_ok : ruleTs.all (okT Tryz.prog ruleTs) = true := by kernel_rfl
theorem cellsSliceAttr : Tryz.prog.cellsOf 22 = 1 := by kernel_rfl
theorem cellsSliceNamed : Tryz.prog.cellsOf 28 = 1 := by kernel_rfl
theorem cellsSliceNode : Tryz.prog.cellsOf 23 = 1 := by kernel_rfl
set_option maxRecDepth 100000 in
theorem open_rule {H : Type} {enc : TypeId × Value → H} {W : World} {v : Value} {d : DataW H} {p : List MemPlace} (h : DataW.Trod enc Tryz.prog W 0 (fun _ => true) true 27 v d p) (hw : ∀ k ∈ d.weights Tryz.prog 27, k ≤ reachBytes) :
    ∃ (rn : ByteArray) (l : List AttrP) (body : List Nd) (aA aB : Option Addr) (cA cB : Nat) (x1 x2 : Int), v = .agg #[.string rn, .slice aA l.length cA, .slice aB body.length cB, .int .i64 x1, .int .i64 x2] ∧ RowAt (fun b => b < W.heap.size) W aA (attrsD l) ∧ RowAt (fun b => b < W.heap.size) W aB (ndsD body) ∧
      l.length ≤ cA ∧ rn.size ≤ reachBytes ∧ (∀ x ∈ l, x.name.size ≤ reachBytes ∧ smallV x.dflt) ∧ l.length ≤ 140737488355328 ∧ fewNs body ∧ body.length ≤ 140737488355328 := by
  obtain ⟨fuel, hf⟩ := h
  have hd := dat_of_trod ruleTs_ok fuel 27 _ d p (by decide) hf
  obtain ⟨xs, n, rfl, hx, -, hxl, hg⟩ := DataW.trod_struct Tryz.underlying27 hf
  cases hx
  match xs, hxl with
  | [y0, y1, y2, y3], _ =>
    have e0 := hg 0 _ rfl
    have e1 := hg 1 _ rfl
    have e2 := hg 2 _ rfl
    have e3 := hg 3 _ rfl
    have hwe : ∀ k ∈ DataW.weightsEach Tryz.prog [9, 22, 23, 25] [y0.1, y1.1, y2.1, y3.1], k ≤ reachBytes := by
      intro k hk
      refine hw k ?_
      rw [DataW.weights, Tryz.underlying27]
      exact hk
    have hwj := fun (j : Nat) (t : TypeId) (y : DataW H) (h1 : ([9, 22, 23, 25] : List TypeId)[j]? = some t) (h2 : ([y0.1, y1.1, y2.1, y3.1] : List (DataW H))[j]? = some y) (k : Nat) (hk : k ∈ y.weights Tryz.prog t) => hwe k (DataW.weights_mem_each h1 h2 k hk)
    obtain ⟨s, h0, hs⟩ := str_of_trod Tryz.underlying9 (show DataW.trod enc Tryz.prog W 0 (fun _ => true) true n 9 _ = some (y0.1, y0.2) from e0) (hwj 0 _ _ rfl rfl)
    obtain ⟨l, h1, hl, hln⟩ := slice_of_trod attrD (fun x => x.name.size ≤ reachBytes ∧ smallV x.dflt) Tryz.underlying22 (fun n' us y hn' hy hky => attr_of_trod n' us y.1 y.2 hy hky) (show DataW.trod enc Tryz.prog W 0 (fun _ => true) true n 22 _ = some (y1.1, y1.2) from e1) (hwj 1 _ _ rfl rfl)
    obtain ⟨body, h2, hb, hbn⟩ := slice_of_trod ndD fewN Tryz.underlying23 (fun n' us y hn' hy hky => nd_of_trod n' us y.1 y.2 hy hky) (show DataW.trod enc Tryz.prog W 0 (fun _ => true) true n 23 _ = some (y2.1, y2.2) from e2) (hwj 2 _ _ rfl rfl)
    obtain ⟨x1, x2, h3⟩ := place_of_trod n _ y3.1 y3.2 e3
    obtain ⟨a, len, cap, hcs, hcap⟩ := cap_of_trod Tryz.underlying22 (show DataW.trod enc Tryz.prog W 0 (fun _ => true) true n 22 _ = some (y1.1, y1.2) from e1)
    rw [toDat] at hd
    simp only [List.map_cons, List.map_nil, toDatC, h0, h1, h2, h3, List.append_nil, List.cons_append, List.nil_append] at hd
    obtain ⟨c0, cs0, q0, g0, hd⟩ := hd.cons_inv
    obtain ⟨c1, cs1, q1, g1, hd⟩ := hd.cons_inv
    obtain ⟨c2, cs2, q2, g2, hd⟩ := hd.cons_inv
    obtain ⟨c3, cs3, q3, g3, hd⟩ := hd.cons_inv
    obtain ⟨c4, cs4, q4, g4, hd⟩ := hd.cons_inv
    obtain rfl := hd.nil_inv
    obtain rfl := g0.one_inv
    obtain rfl := g3.one_inv
    obtain rfl := g4.one_inv
    obtain ⟨aA, cA, rfl, hrA⟩ := g1.row_inv
    obtain ⟨aB, cB, rfl, hrB⟩ := g2.row_inv
    rw [q4] at q3
    rw [q3] at q2
    rw [q2] at q1
    rw [q1] at q0
    rw [q0] at hcs
    have hv := agg_of_cells q0 (by simp)
    rw [List.length_map] at hv hcs
    rw [List.length_map] at hv
    have hcs' : (Value.slice aA l.length cA) = .slice a len cap := by
      have h9 : [Value.slice aA l.length cA] = [.slice a len cap] := by
        rw [← hcs]
        show _ = List.take (Tryz.prog.cellsOf 22) (List.drop 1 _)
        rw [cellsSliceAttr]
        rfl
      simpa using h9
    rw [bytesAttr] at hln
    rw [bytesNode] at hbn
    unfold reachBytes at hln hbn
    refine ⟨s, l, body, aA, aB, cA, cB, x1, x2, hv, hrA, by rw [ndsD_map]; exact hrB, ?_, hs, hl, by omega, fewNs_of hb, by omega⟩
    injection hcs' with e1 e2 e3
    omega

set_option maxRecDepth 100000 in
theorem open_decl {H : Type} {enc : TypeId × Value → H} {W : World} {v : Value} {d : DataW H} {p : List MemPlace} (h : DataW.Trod enc Tryz.prog W 0 (fun _ => true) true 30 v d p) (hw : ∀ k ∈ d.weights Tryz.prog 30, k ≤ reachBytes) :
    ∃ (dr : ByteArray) (args : List (ByteArray × Vl)) (aD : Option Addr) (cD : Nat) (x3 x4 : Int), v = .agg #[.string dr, .slice aD args.length cD, .int .i64 x3, .int .i64 x4] ∧ RowAt (fun b => b < W.heap.size) W aD (namedsD args) ∧
      dr.size ≤ reachBytes ∧ (∀ q ∈ args, q.1.size ≤ reachBytes ∧ smallV q.2) ∧ args.length ≤ 140737488355328 := by
  obtain ⟨fuel, hf⟩ := h
  have hd := dat_of_trod ruleTs_ok fuel 30 _ d p (by decide) hf
  obtain ⟨xs, n, rfl, hx, -, hxl, hg⟩ := DataW.trod_struct Tryz.underlying30 hf
  cases hx
  match xs, hxl with
  | [y0, y1, y3], _ =>
    have e0 := hg 0 _ rfl
    have e1 := hg 1 _ rfl
    have e3 := hg 2 _ rfl
    have hwe : ∀ k ∈ DataW.weightsEach Tryz.prog [9, 28, 25] [y0.1, y1.1, y3.1], k ≤ reachBytes := by
      intro k hk
      refine hw k ?_
      rw [DataW.weights, Tryz.underlying30]
      exact hk
    have hwj := fun (j : Nat) (t : TypeId) (y : DataW H) (h1 : ([9, 28, 25] : List TypeId)[j]? = some t) (h2 : ([y0.1, y1.1, y3.1] : List (DataW H))[j]? = some y) (k : Nat) (hk : k ∈ y.weights Tryz.prog t) => hwe k (DataW.weights_mem_each h1 h2 k hk)
    obtain ⟨s, h0, hs⟩ := str_of_trod Tryz.underlying9 (show DataW.trod enc Tryz.prog W 0 (fun _ => true) true n 9 _ = some (y0.1, y0.2) from e0) (hwj 0 _ _ rfl rfl)
    obtain ⟨l, h1, hl, hln⟩ := slice_of_trod namedD (fun q => q.1.size ≤ reachBytes ∧ smallV q.2) Tryz.underlying28 (fun n' us y hn' hy hky => named_of_trod n' us y.1 y.2 hy hky) (show DataW.trod enc Tryz.prog W 0 (fun _ => true) true n 28 _ = some (y1.1, y1.2) from e1) (hwj 1 _ _ rfl rfl)
    obtain ⟨x1, x2, h3⟩ := place_of_trod n _ y3.1 y3.2 e3
    rw [toDat] at hd
    simp only [List.map_cons, List.map_nil, toDatC, h0, h1, h3, List.append_nil, List.cons_append, List.nil_append] at hd
    obtain ⟨c0, cs0, q0, g0, hd⟩ := hd.cons_inv
    obtain ⟨c1, cs1, q1, g1, hd⟩ := hd.cons_inv
    obtain ⟨c3, cs3, q3, g3, hd⟩ := hd.cons_inv
    obtain ⟨c4, cs4, q4, g4, hd⟩ := hd.cons_inv
    obtain rfl := hd.nil_inv
    obtain rfl := g0.one_inv
    obtain rfl := g3.one_inv
    obtain rfl := g4.one_inv
    obtain ⟨aA, cA, rfl, hrA⟩ := g1.row_inv
    rw [q4] at q3
    rw [q3] at q1
    rw [q1] at q0
    have hv := agg_of_cells q0 (by simp)
    rw [List.length_map] at hv
    rw [bytesNamed] at hln
    unfold reachBytes at hln
    exact ⟨s, l, aA, cA, x1, x2, hv, hrA, hs, hl, by omega⟩
end Go.Proofs.YthknljeffpbbmaaGreatDoor
