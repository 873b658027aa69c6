/-
  How the evaluator stands on its way: which blocks it may write (M), in which its data lies (F); the machine in memory.
  The walks of the evaluator's small functions: step, kid, truth, fixed.
-/
import Derived.Test.YtmmflgbhgjefmaaGreatDoorEvalPlain
import Derived.Test.YtmmflgbhgjefmaaGreatDoorMParseL
import Derived.Test.YtmmflgbhgjefmaaGreatDoorRawMap
namespace Go.Proofs.YtmmflgbhgjefmaaGreatDoor
open Go Go.RowKit

/-- The blocks that may be written (M), those in which data lies that is not written again (F). -/
structure Ctx where
  M : Nat → Prop
  F : Nat → Prop
/-- What has become of the world: nothing of before is written but in M; what may be written from here on, or holds data, was so before, or is new. -/
structure Mv (c : Ctx) (w : World) (c' : Ctx) (w' : World) : Prop where
  os : w'.os = w.os
  tape : w'.tape = w.tape
  output : w'.output = w.output
  size : w.heap.size ≤ w'.heap.size
  block : ∀ b, b < w.heap.size → ¬ c.M b → w'.heap[b]? = w.heap[b]?
  m : ∀ b, c'.M b → c.M b ∨ w.heap.size ≤ b
  f : ∀ b, c'.F b → c.F b ∨ w.heap.size ≤ b
theorem Mv.refl (c : Ctx) (w : World) : Mv c w c w := ⟨rfl, rfl, rfl, Nat.le_refl _, fun _ _ _ => rfl, fun _ h => .inl h, fun _ h => .inl h⟩
theorem Mv.trans {c c1 c2 : Ctx} {w w1 w2 : World} (h : Mv c w c1 w1) (k : Mv c1 w1 c2 w2) : Mv c w c2 w2 :=
  ⟨k.os.trans h.os, k.tape.trans h.tape, k.output.trans h.output, Nat.le_trans h.size k.size,
    fun b hb hn => (k.block b (Nat.lt_of_lt_of_le hb h.size) (fun hm => by rcases h.m b hm with h1 | h1; exact hn h1; omega)).trans (h.block b hb hn),
    fun b hm => by rcases k.m b hm with h1 | h1; exact h.m b h1; exact .inr (Nat.le_trans h.size h1),
    fun b hm => by rcases k.f b hm with h1 | h1; exact h.f b h1; exact .inr (Nat.le_trans h.size h1)⟩
theorem Mv.of_below (c : Ctx) {w w' : World} (h : Below w.heap.size w w') : Mv c w c w' := ⟨h.os, h.tape, h.output, h.size, fun b hb _ => h.block b hb, fun _ h => .inl h, fun _ h => .inl h⟩
theorem Mv.below {c c1 : Ctx} {w w1 w2 : World} (h : Mv c w c1 w1) (k : Below w1.heap.size w1 w2) : Mv c w c1 w2 := h.trans (.of_below c1 k)
/-- A block that is new, or may be written, is written. -/
theorem Mv.set {c c1 : Ctx} {w w1 : World} (h : Mv c w c1 w1) {b : Nat} (hb : w.heap.size ≤ b ∨ c.M b) (i : Nat) (v : Value) : Mv c w c1 (w1.setCell ⟨b, i, none⟩ v) :=
  ⟨h.os, h.tape, h.output, by simpa using h.size, fun k hk hn => (set_other (fun e => by rcases hb with hb | hb; omega; exact hn (e ▸ hb)) i v).trans (h.block k hk hn), h.m, h.f⟩
/-- More data lies in a block that is new. -/
def Ctx.with (c : Ctx) (g : Nat → Prop) : Ctx := ⟨c.M, fun b => c.F b ∨ g b⟩
theorem Mv.with {c c1 : Ctx} {w w1 : World} (h : Mv c w c1 w1) {g : Nat → Prop} (hg : ∀ b, g b → w.heap.size ≤ b) : Mv c w (c1.with g) w1 :=
  ⟨h.os, h.tape, h.output, h.size, h.block, h.m, fun b hb => by rcases hb with hb | hb; exact h.f b hb; exact .inr (hg b hb)⟩
/-- An append to a row of its own. -/
theorem Mv.own {c c1 : Ctx} {w w1 w2 : World} (h : Mv c w c1 w1) {v : Value} (k : w1.grownBy w2 v.ownBlock) (hv : ∀ g, v.ownBlock = some g → w.heap.size ≤ g) : Mv c w c1 w2 :=
  ⟨k.os.trans h.os, k.tape.trans h.tape, k.output.trans h.output, Nat.le_trans h.size k.size, fun i hi hn => (k.block i (Nat.lt_of_lt_of_le hi h.size) (fun e => by have := hv i e.symm; omega)).trans (h.block i hi hn), h.m, h.f⟩

/-- What lies in the data's blocks stays. -/
structure Ctx.Ok (c : Ctx) (w : World) : Prop where
  ml : ∀ b, c.M b → b < w.heap.size
  fl : ∀ b, c.F b → b < w.heap.size
  apart : ∀ b, c.F b → ¬ c.M b
theorem Ctx.Ok.below {c : Ctx} {w w' : World} (h : c.Ok w) (hs : w.heap.size ≤ w'.heap.size) : c.Ok w' := ⟨fun b hb => Nat.lt_of_lt_of_le (h.ml b hb) hs, fun b hb => Nat.lt_of_lt_of_le (h.fl b hb) hs, h.apart⟩
theorem Ctx.Ok.with {c : Ctx} {w : World} (h : c.Ok w) {g : Nat → Prop} (hg : ∀ b, g b → b < w.heap.size ∧ ¬ c.M b) : (c.with g).Ok w :=
  ⟨h.ml, fun b hb => by rcases hb with hb | hb; exact h.fl b hb; exact (hg b hb).1, fun b hb => by rcases hb with hb | hb; exact h.apart b hb; exact (hg b hb).2⟩
theorem AggAt.mv {c c' : Ctx} {w w' : World} (hk : Mv c w c' w') (ho : c.Ok w) {ds : List Dat} {cs : List Value} {F : Nat → Prop} (h : AggAt F w ds cs) (hF : ∀ b, F b → b < w.heap.size → ¬ c.M b) : AggAt F w' ds cs :=
  h.mono fun b hb hl => ⟨hb, Nat.lt_of_lt_of_le hl hk.size, hk.block b hl (hF b hb hl)⟩
theorem RowAt.mv {c c' : Ctx} {w w' : World} (hk : Mv c w c' w') {a : Option Addr} {l : List (List Dat)} {F : Nat → Prop} (h : RowAt F w a l) (hF : ∀ b, F b → b < w.heap.size → ¬ c.M b) : RowAt F w' a l :=
  h.mono fun b hb hl => ⟨hb, Nat.lt_of_lt_of_le hl hk.size, hk.block b hl (hF b hb hl)⟩

/-- The entries of the names' map. -/
def NamesAt (F : Nat → Prop) (w : World) (m : List (Value × Value)) (names : List (ByteArray × Vl)) : Prop :=
  m.length = names.length ∧ ∀ (j : Nat) p q, m[j]? = some p → names[j]? = some q → p.1 = .string q.1 ∧ ∃ cs : List Value, p.2 = .agg cs.toArray ∧ AggAt F w (valD q.2) cs
/-- The machine: at block mp, its names' map at block mb, its host hv. -/
structure MS (c : Ctx) (w : World) (mp mb : Nat) (hv : Value) (st : St) : Prop where
  ok : c.Ok w
  head : w.heap[mp]? = some (.cells #[.map (some mb), hv, .int .i64 st.left] 87 (0, 0))
  hm : c.M mp
  hb : c.M mb
  names : ∃ m, RawMap w mb m ∧ NamesAt c.F w m st.names
  uniq : (st.names.map (·.1.data.toList)).Nodup
  left : st.left ≤ 1000000 ∧ -1 ≤ st.left
  few : ∀ q ∈ st.names, checkV q.2 = true ∧ q.1.size ≤ maxLen
theorem NamesAt.mono {F G : Nat → Prop} {w w' : World} {m : List (Value × Value)} {names : List (ByteArray × Vl)} (h : NamesAt F w m names) (hk : ∀ b, F b → b < w.heap.size → G b ∧ b < w'.heap.size ∧ w'.heap[b]? = w.heap[b]?) : NamesAt G w' m names :=
  ⟨h.1, fun j p q h1 h2 => by obtain ⟨h3, cs, h4, h5⟩ := h.2 j p q h1 h2; exact ⟨h3, cs, h4, h5.mono hk⟩⟩
theorem MS.below {c : Ctx} {w w' : World} {mp mb : Nat} {hv : Value} {st : St} (h : MS c w mp mb hv st) (hb : Below w.heap.size w w') : MS c w' mp mb hv st := by
  obtain ⟨m, h1, h2⟩ := h.names
  exact ⟨h.ok.below hb.size, (hb.block _ (Array.getElem?_eq_some_iff.1 h.head).1).trans h.head, h.hm, h.hb, ⟨m, h1.below hb, h2.mono (keep_below _ hb)⟩, h.uniq, h.left, h.few⟩
/-- A block apart from the machine's and the data's is written. -/
theorem MS.other {c : Ctx} {w w' : World} {mp mb : Nat} {hv : Value} {st : St} (h : MS c w mp mb hv st) (hs : w.heap.size ≤ w'.heap.size) (hk : ∀ b, b < w.heap.size → (c.M b ∨ c.F b) → w'.heap[b]? = w.heap[b]?) : MS c w' mp mb hv st := by
  obtain ⟨m, h1, h2⟩ := h.names
  exact ⟨h.ok.below hs, (hk _ (h.ok.ml _ h.hm) (.inl h.hm)).trans h.head, h.hm, h.hb, ⟨m, h1.of_block (hk _ (h.ok.ml _ h.hb) (.inl h.hb)), h2.mono fun b hF hl => ⟨hF, Nat.lt_of_lt_of_le hl hs, hk b hl (.inr hF)⟩⟩, h.uniq, h.left, h.few⟩
theorem MS.with {c : Ctx} {w : World} {mp mb : Nat} {hv : Value} {st : St} (h : MS c w mp mb hv st) {g : Nat → Prop} (hg : ∀ b, g b → b < w.heap.size ∧ ¬ c.M b) : MS (c.with g) w mp mb hv st := by
  obtain ⟨m, h1, h2⟩ := h.names
  exact ⟨h.ok.with hg, h.head, h.hm, h.hb, ⟨m, h1, h2.mono fun b hF hl => ⟨.inl hF, hl, rfl⟩⟩, h.uniq, h.left, h.few⟩

/-- What a method of the machine does, by what the plain words say. -/
def EP {α : Type} (mp mb : Nat) (hv : Value) (val : (Nat → Prop) → α → World → Value → Prop) (bad : Int → Int → Int → Value) (c : Ctx) (r : ER α) (w : World) (e : Ending) (w' : World) : Prop :=
  ∃ c', Mv c w c' w' ∧ match r with
    | .ok x st => MS c' w' mp mb hv st ∧ ∃ v, e = .returned v ∧ val c'.F x w' v
    | .err a l k => e = .returned (bad a l k)
    | .out => True
def faultV (e l c : Int) : Value := .agg #[.int .i64 e, .int .i64 l, .int .i64 c]
def zeroV : Value := .agg #[.int .i64 0, .int .i64 0, .string ⟨#[]⟩, .slice none 0 0, .slice none 0 0]
/-- A value and no fault; a fault. -/
def EVal (F : Nat → Prop) (x : Vl) (w : World) (v : Value) : Prop := ∃ cs : List Value, v = .tuple #[.agg cs.toArray, faultV 0 0 0] ∧ AggAt F w (valD x) cs ∧ checkV x = true
def badV (e l c : Int) : Value := .tuple #[zeroV, faultV e l c]
def EUnit (_ : Nat → Prop) (_ : Unit) (_ : World) (v : Value) : Prop := v = faultV 0 0 0
end Go.Proofs.YtmmflgbhgjefmaaGreatDoor
namespace Go.Proofs.YtmmflgbhgjefmaaGreatDoor
open Go Go.RowKit

theorem MS.apart {c : Ctx} {w : World} {mp mb : Nat} {hv : Value} {st : St} (h : MS c w mp mb hv st) : mp ≠ mb := by
  intro e
  obtain ⟨m, ⟨es, ck, h1, -⟩, -⟩ := h.names
  have h2 := h.head
  rw [e, h1] at h2
  cases h2
/-- The steps that are left are written. -/
theorem MS.setLeft {c : Ctx} {w : World} {mp mb : Nat} {hv : Value} {st : St} (h : MS c w mp mb hv st) (n : Int) (hn : n ≤ 1000000 ∧ -1 ≤ n) : MS c (w.setCell ⟨mp, 2, none⟩ (.int .i64 n)) mp mb hv { st with left := n } := by
  obtain ⟨m, h1, h2⟩ := h.names
  have hne := h.apart
  refine ⟨h.ok.below (by simp), by rw [set_same h.head 2]; rfl, h.hm, h.hb, ⟨m, h1.of_block (set_other hne.symm 2 _), h2.mono fun b hF hl => ⟨hF, by simpa using hl, set_other (fun e => h.ok.apart b hF (by rw [e]; exact h.hm)) 2 _⟩⟩, h.uniq, hn, h.few⟩
set_option maxRecDepth 100000 in
set_option maxHeartbeats 1000000 in
theorem step_any (c : Ctx) (mp mb : Nat) (hv : Value) (st : St) (l k : Int) (w : World) (hm : MS c w mp mb hv st) :
    Calls Tryz.prog 78 #[ptr mp, .agg #[.int .i64 l, .int .i64 k]] w (EP mp mb hv EUnit faultV c (eStep l k st) w) := by
  have Hm := Lib.hid hm
  obtain ⟨hbp, q0, q1, q2, z0, z1, z2⟩ := three_facts hm.head
  obtain ⟨hl1, hl2⟩ := hm.left
  clear hm
  unfold ptr
  by_cases hle : st.left ≤ 0
  · have Hr : Hid (eStep l k st = .err 12 l k) := Lib.hid (by unfold eStep; rw [if_pos hle])
    go_enter Tryz.func78, Tryz.ntmps78
    go_wp2
    refine bodyPost_ret (v := faultV 12 l k) (by simp [faultV, results, Tryz.results78, go_sem]) rfl ?_
    rw [Hr.out]
    exact ⟨c, .of_below c (((Below.refl _ w).alloc (Nat.le_refl _) _).alloc (by simp) _), rfl⟩
  · have Hr : Hid (eStep l k st = .ok () { st with left := st.left - 1 }) := Lib.hid (by unfold eStep; rw [if_neg hle])
    go_enter Tryz.func78, Tryz.ntmps78
    go_wp2
    refine bodyPost_ret (v := faultV 0 0 0) (by simp [faultV, results, Tryz.results78, go_sem]) rfl ?_
    rw [Hr.out]
    have hms := Hm.out.setLeft (st.left - 1) (by omega)
    refine ⟨c, ?_, hms.below (((Below.refl _ _).alloc (Nat.le_refl _) _).alloc (by simp) _), _, rfl, rfl⟩
    exact ((Mv.refl c w).set (.inr Hm.out.hm) 2 _).below (((Below.refl _ _).alloc (Nat.le_refl _) _).alloc (by simp) _)

def PKid (G : Nat → Prop) (n : Nd) (w : World) (e : Ending) (w' : World) : Prop := ∃ v, e = .returned v ∧ NodeV G w' n v ∧ Below w.heap.size w w'
theorem RowAt.node {F : Nat → Prop} {w : World} {a : Option Addr} {l : List Nd} (h : RowAt F w a (nodesD l)) {j : Nat} {k ln cl : Int} {t : ByteArray} {m : List Nd} (hj : l[j]? = some (.mk k t ln cl m)) :
    ∃ b off a1 c1, a = some ⟨b, off, none⟩ ∧ F b ∧ b < w.heap.size ∧ w.cell? ⟨b, off + j * 5, none⟩ = some (.int .i64 k) ∧ w.cell? ⟨b, off + j * 5 + 1, none⟩ = some (.string t) ∧ w.cell? ⟨b, off + j * 5 + 2, none⟩ = some (.int .i64 ln) ∧
      w.cell? ⟨b, off + j * 5 + 3, none⟩ = some (.int .i64 cl) ∧ w.cell? ⟨b, off + j * 5 + 4, none⟩ = some (.slice a1 m.length c1) ∧ RowAt F w a1 (nodesD m) := by
  obtain ⟨b, off, cs, ha, hF, hb, hd, hc⟩ := h j (nodeD (.mk k t ln cl m)) (by rw [nodesD_map, List.getElem?_map, hj]; rfl)
  have hv : NodeV F w (.mk k t ln cl m) (.agg cs.toArray) := ⟨cs, rfl, hd⟩
  obtain ⟨a1, c1, he, hr⟩ := hv.open
  have hcs : cs = [.int .i64 k, .string t, .int .i64 ln, .int .i64 cl, .slice a1 m.length c1] := by simpa using he
  subst hcs
  rw [nodeD_len] at hc
  exact ⟨b, off, a1, c1, ha, hF, hb, hc 0 _ rfl, hc 1 _ rfl, hc 2 _ rfl, hc 3 _ rfl, hc 4 _ rfl, hr⟩

set_option maxRecDepth 100000 in
set_option maxHeartbeats 1000000 in
theorem kid_any (G : Nat → Prop) (k : Int) (t : ByteArray) (l c : Int) (kids : List Nd) (a : Option Addr) (cap : Nat) (i : Int) (w : World) (hi0 : 0 ≤ i) (hi2 : i ≤ 2) (hlen : kids.length ≤ 140737488355328) (hr : RowAt G w a (nodesD kids)) :
    Calls Tryz.prog 80 #[.agg #[.int .i64 k, .string t, .int .i64 l, .int .i64 c, .slice a kids.length cap], .int .i64 i] w (PKid G (kidN (.mk k t l c kids) i.toNat) w) := by
  by_cases hlt : i < kids.length
  · have hj : kids[i.toNat]? = some (kids[i.toNat]'(by omega)) := List.getElem?_eq_getElem _
    have Hk : Hid (kidN (.mk k t l c kids) i.toNat = kids[i.toNat]'(by omega)) := Lib.hid (by unfold kidN; show (kids[i.toNat]?).getD _ = _; rw [hj]; rfl)
    cases hx : kids[i.toNat]'(by omega) with
    | mk kk kt kl kc m =>
      rw [hx] at hj Hk
      obtain ⟨b, off, a1, c1, rfl, hF, hb, r0, r1, r2, r3, r4, hr1⟩ := hr.node hj
      have Hr1 := Lib.hid hr1
      clear hr hj hx hr1
      have hn0 : ¬ i < 0 := by omega
      have hge : ¬ (kids.length : Int) ≤ i := by omega
      go_enter Tryz.func80, Tryz.ntmps80
      go_wp2
      refine bodyPost_ret (v := .agg #[.int .i64 kk, .string kt, .int .i64 kl, .int .i64 kc, .slice a1 m.length c1]) (by simp [results, Tryz.results80, go_sem]) rfl ?_
      have hbl : Below w.heap.size w ((w.alloc (.cells #[.int .i64 k, .string t, .int .i64 l, .int .i64 c, .slice (some ⟨b, off, none⟩) kids.length cap] 51)).alloc (.cells #[.int .i64 kk, .string kt, .int .i64 kl, .int .i64 kc, .slice a1 m.length c1] 51)) := ((Below.refl _ w).alloc (Nat.le_refl _) _).alloc (by simp) _
      rw [Hk.out]
      exact ⟨_, rfl, NodeV.mk _ _ _ _ _ (Hr1.out.below hbl), hbl⟩
  · have Hk : Hid (kidN (.mk k t l c kids) i.toNat = ndZero) := Lib.hid (by unfold kidN; show (kids[i.toNat]?).getD _ = _; rw [List.getElem?_eq_none (by omega)]; rfl)
    have hn0 : ¬ i < 0 := by omega
    have hge : (kids.length : Int) ≤ i := by omega
    clear hr
    go_enter Tryz.func80, Tryz.ntmps80
    go_wp2
    refine bodyPost_ret (v := .agg #[.int .i64 0, .string ⟨#[]⟩, .int .i64 0, .int .i64 0, .slice none 0 0]) (by simp [results, Tryz.results80, go_sem]) rfl ?_
    rw [Hk.out]
    exact ⟨_, rfl, NodeV.mk (kids := []) _ _ _ _ _ (RowAt.nil _), ((Below.refl _ w).alloc (Nat.le_refl _) _).alloc (by simp) _⟩

def boolV (b : Bool) : Vl := .mk 1 (if b then 1 else 0) ⟨#[]⟩ [] []
def boolC (b : Bool) : Value := .agg #[.int .i64 1, .int .i64 (if b then 1 else 0), .string ⟨#[]⟩, .slice none 0 0, .slice none 0 0]
theorem AggAt.bool (F : Nat → Prop) (w : World) (b : Bool) : AggAt F w (valD (boolV b)) [.int .i64 1, .int .i64 (if b then 1 else 0), .string ⟨#[]⟩, .slice none 0 0, .slice none 0 0] :=
  AggAt.val_mk (l := []) (ks := []) _ _ _ _ _ (RowAt.nil _) (RowAt.nil _)
set_option maxRecDepth 100000 in
theorem etruth_any (b : Bool) (w : World) : Calls Tryz.prog 131 #[.bool b] w (fun e w' => e = .returned (boolC b) ∧ Below w.heap.size w w') := by
  unfold boolC
  cases b
  · go_enter Tryz.func131, Tryz.ntmps131
    go_wp2
    exact bodyPost_ret (v := boolC false) (by simp [boolC, results, Tryz.results131, go_sem]) rfl ⟨rfl, ((Below.refl _ w).alloc (Nat.le_refl _) _).alloc (by simp) _⟩
  · go_enter Tryz.func131, Tryz.ntmps131
    go_wp2
    exact bodyPost_ret (v := boolC true) (by simp [boolC, results, Tryz.results131, go_sem]) rfl ⟨rfl, ((Below.refl _ w).alloc (Nat.le_refl _) _).alloc (by simp) _⟩
end Go.Proofs.YtmmflgbhgjefmaaGreatDoor
