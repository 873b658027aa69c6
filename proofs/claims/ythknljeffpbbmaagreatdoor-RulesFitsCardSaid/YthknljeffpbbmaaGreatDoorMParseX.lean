/-
  The walk of the parser's Read.
  The walk of the parser's Read, where the lexer doesn't break off.
-/
import Derived.Test.YthknljeffpbbmaaGreatDoorMParseWa
import Derived.Test.YthknljeffpbbmaaGreatDoorRegionHeldD
namespace Go.Proofs.YthknljeffpbbmaaGreatDoor
open Go Go.RowKit

theorem nextL_code {l : List UInt8} {e : Int} (h : nextL l = .error e) : e = 2 ∨ e = 3 := by
  unfold nextL at h
  split at h
  · cases h; exact .inr rfl
  · split at h
    · cases h
    · split at h
      · cases h
      · split at h
        · cases h
        · split at h
          · unfold numberL at h
            split at h
            · cases h; exact .inr rfl
            · split at h
              · cases h; exact .inl rfl
              · cases h
          · split at h
            · split at h
              · cases h
              · cases h; exact .inr rfl
            · split at h
              · cases h
              · split at h
                · cases h
                · cases h; exact .inr rfl
theorem tokensL_err : ∀ (f : Nat) (p : Int × Int) (l : List UInt8) (x : Int × Int × Int), tokensL f p l = .error x → x.1 = 2 ∨ x.1 = 3
  | 0, _, _, x, h => by cases h
  | f + 1, p, l, x, h => by
    rw [tokensL] at h
    split at h
    · cases h
    · split at h
      · rename_i e he
        cases h
        exact nextL_code he
      · split at h
        · rename_i e he
          cases h
          exact tokensL_err f _ _ _ he
        · cases h
theorem lexL_err {l : List UInt8} {x : Int × Int × Int} (h : lexL l = .error x) : x.1 = 2 ∨ x.1 = 3 ∨ x.1 = 6 := by
  unfold lexL at h
  split at h
  · cases h; exact .inr (.inr rfl)
  · rcases tokensL_err _ _ _ _ h with h | h
    · exact .inl h
    · exact .inr (.inl h)
theorem lexL_short {l : List UInt8} {ts : List Tok} (h : lexL l = .ok ts) : l.length ≤ 65536 := by
  unfold lexL at h
  split at h
  · cases h
  · omega

def ZC : Array Value := #[.int .i64 0, .string ⟨#[]⟩, .int .i64 0, .int .i64 0, .slice none 0 0]
theorem readSame (d : Nat) (hd : 5 ≤ d) (tmps : Array Value) (v : Value) (w : World) : (results Tryz.f60 (tmps.setIfInBounds d v)).run Tryz.prog w = (results Tryz.f60 tmps).run Tryz.prog w := by
  have h : ∀ k, k < 5 → (tmps.setIfInBounds d v).getD k undef = tmps.getD k undef := fun k hk => by
    rw [Array.getD_eq_getD_getElem?, Array.getD_eq_getD_getElem?, Array.getElem?_setIfInBounds_ne (by omega)]
  simp only [results, Tryz.results60, List.mapM_toArray, List.mapM_cons, List.mapM_nil, h 2 (by omega), h 3 (by omega), h 4 (by omega)]
/-- What stands behind a break in Read does not hang on what its regions write. -/
theorem readQ {ops : Array Oper} {R : Ending → World → Prop} {Q : Exit → Act → World → Prop} (hq : ∀ c a w, Q (.panic c) a w = bodyPostD Tryz.prog Tryz.f60 R (.panic c) a w) (hops : (ops.toList.all fun o => match o.dst with | none => true | some d => decide (5 ≤ d)) = true) :
    ∀ (i : Nat) (o : Oper), ops[i]? = some o → ∀ c a v w, Q (.panic c) (a.put o.dst v) w → Q (.panic c) a w := by
  intro i o ho c a v w h
  rw [hq] at h ⊢
  have hd := List.all_eq_true.1 hops o (List.mem_of_getElem? (by rw [Array.getElem?_toList]; exact ho))
  cases hdst : o.dst with
  | none => rw [hdst] at h; exact h
  | some d =>
    rw [hdst] at h hd
    have hd5 : 5 ≤ d := by simpa using hd
    exact leaves_same (fun w => readSame d hd5 a.tmps v w) a.defers _ _ h
set_option maxRecDepth 100000 in
set_option maxHeartbeats 1000000 in
/-- Where the lexer breaks off. -/
theorem read_lex (s : ByteArray) (w : World) (hs : s.size ≤ 9223372036854775807) (hw : StdE w) (x : Int × Int × Int) (hl : lexL s.data.toList = .error x) :
    Calls Tryz.prog 60 #[.string s] w (PRead s w) := by
  have hb0 := rdB_start w
  have Hall := Lib.hid (all_any s _ hs (hw.below hb0.below))
  have H0 := Lib.hid hb0
  have hx := lexL_err hl
  have hx0 : (x.1 == 0) = false := by rw [beq_eq_false_iff_ne]; omega
  have hx1 : (x.1 != 0) = true := by rw [bne, hx0]; rfl
  have Hr : Hid (readL s.data.toList = some (.error x)) := Lib.hid (by unfold readL; rw [hl])
  have Hl := Lib.hid hl
  clear hb0 hw hx hl
  go_enter_defers Tryz.func60, Tryz.ntmps60
  go_wp2_with fail
  refine Hall.out.mono ?_
  rintro e w1 ⟨hb1, hq⟩
  rw [Hl.out] at hq
  obtain rfl := hq
  have H1 := Lib.hid (H0.out.later hb1)
  obtain ⟨b0, b1⟩ := one_wfacts H1.out.b
  obtain ⟨c0, c1, c2, c3, c4⟩ := two_facts H1.out.c
  have hbl : w.heap.size + 1 < w1.heap.size := (Array.getElem?_eq_some_iff.1 H1.out.b).1
  clear hb1
  go_upto_region 2 with fail
  have H2 := Lib.hid ((H1.out.setB x.1).setC x.2.1 x.2.2)
  generalize World.setCell _ _ _ = W2 at H2 ⊢
  clear b0 b1 c0 c1 c2 c3 c4 hbl H1
  obtain ⟨b0, b1⟩ := one_wfacts H2.out.b
  go_wp2_with fail
  clear b0 b1
  refine wp_region_turnsD (.s 0 (.s 1 (.s 2 (.h 3 (.h 4 (.h 5 .nil)))))) 99 (fun W' => W'.heap[w.heap.size]? = some (.cells #[.int .i64 0, .string ⟨#[]⟩, .int .i64 0, .int .i64 0, .slice none 0 0] 83 (0, 0)) ∧ W'.heap[w.heap.size + 1]? = some (.cells #[.int .i64 x.1] 45 (0, 0)) ∧ W'.heap[w.heap.size + 1 + 1]? = some (.cells #[.int .i64 x.2.1, .int .i64 x.2.2] 25 (0, 0))) (by kernel_rfl) (by kernel_rfl) (readQ (fun _ _ _ => rfl) (by kernel_rfl)) ⟨H2.out.a, H2.out.b, H2.out.c⟩ ?_
  have H3 := Lib.hid (H2.out.later ((Below.refl _ W2).drew))
  generalize W2.drew = W3 at H3 ⊢
  clear H2
  refine turn_steady (.agg #[.int .i64 0, .string ⟨#[]⟩, .int .i64 0, .int .i64 0, .slice none 0 0]) rfl rfl (fun W' hS => ?_) ?_
  · obtain ⟨s0, s1, s2, s3, s4, s5, s6, s7, s8, s9, s10⟩ := five_facts hS.1
    clear hS
    go_simp
  try simp only [List.getElem_toArray, List.getElem_cons_zero, Act.put, List.setIfInBounds_toArray, List.set_cons_zero, List.set_cons_succ]
  refine turn_steady (.int .i64 x.1) rfl rfl (fun W' hS => ?_) ?_
  · obtain ⟨s0, s1⟩ := one_wfacts hS.2.1
    clear hS
    go_simp
  try simp only [List.getElem_toArray, List.getElem_cons_succ, List.getElem_cons_zero, Act.put, List.setIfInBounds_toArray, List.set_cons_zero, List.set_cons_succ]
  refine turn_steady (.agg #[.int .i64 x.2.1, .int .i64 x.2.2]) rfl rfl (fun W' hS => ?_) ?_
  · obtain ⟨s0, s1, s2, s3, s4⟩ := two_facts hS.2.2
    clear hS
    go_simp
  try simp only [List.getElem_toArray, List.getElem_cons_succ, List.getElem_cons_zero, Act.put, List.setIfInBounds_toArray, List.set_cons_zero, List.set_cons_succ]
  obtain ⟨r0, r1, r2, r3, r4, r5, r6, r7, r8, r9, r10⟩ := five_facts H3.out.a
  refine turn_heavy rfl (fun Kx hKx => ?_)
  go_wp2_with fail
  have H4 := Lib.hid (H3.out.setA (.int .i64 0) (.string ⟨#[]⟩) (.int .i64 0) (.int .i64 0) (.slice none 0 0))
  refine hKx _ _ (fun _ => ⟨H4.out.a, H4.out.b, H4.out.c⟩) ?_
  generalize World.setCell _ _ _ = W4 at H4 ⊢
  try simp only [List.getElem_toArray, List.getElem_cons_succ, List.getElem_cons_zero, Act.put, List.setIfInBounds_toArray, List.set_cons_zero, List.set_cons_succ]
  clear r0 r1 r2 r3 r4 r5 r6 r7 r8 r9 r10 hKx H3
  obtain ⟨b0, b1⟩ := one_wfacts H4.out.b
  refine turn_heavy rfl (fun Ky hKy => ?_)
  go_wp2_with fail
  have H5 := Lib.hid (H4.out.setB x.1)
  refine hKy _ _ (fun _ => ⟨H5.out.a, H5.out.b, H5.out.c⟩) ?_
  generalize World.setCell _ _ _ = W5 at H5 ⊢
  try simp only [List.getElem_toArray, List.getElem_cons_succ, List.getElem_cons_zero, Act.put, List.setIfInBounds_toArray, List.set_cons_zero, List.set_cons_succ]
  clear b0 b1 hKy H4
  obtain ⟨c0, c1, c2, c3, c4⟩ := two_facts H5.out.c
  refine turn_heavy rfl (fun Kz hKz => ?_)
  go_wp2_with fail
  have H6 := Lib.hid (H5.out.setC x.2.1 x.2.2)
  refine hKz _ _ (fun _ => ⟨H6.out.a, H6.out.b, H6.out.c⟩) ?_
  generalize World.setCell _ _ _ = W6 at H6 ⊢
  refine turn_end ?_
  try simp only [List.getElem_toArray, List.getElem_cons_succ, List.getElem_cons_zero, Act.put, List.setIfInBounds_toArray, List.set_cons_zero, List.set_cons_succ]
  clear c0 c1 c2 c3 c4 hKz H5
  go_wp2_with fail
  obtain ⟨r0, r1, r2, r3, r4, r5, r6, r7, r8, r9, r10⟩ := five_facts H6.out.a
  obtain ⟨b0, b1⟩ := one_wfacts H6.out.b
  obtain ⟨c0, c1, c2, c3, c4⟩ := two_facts H6.out.c
  refine ⟨.tuple #[.agg zeroNode, .int .i64 x.1, .agg #[.int .i64 x.2.1, .int .i64 x.2.2]], by simp [zeroNode, results, Tryz.results60, go_sem, r1, r2, r3, r4, r5, b0, c1, c2], ?_⟩
  refine ⟨H6.out.below, ?_⟩
  rw [Hr.out]
end Go.Proofs.YthknljeffpbbmaaGreatDoor
namespace Go.Proofs.YthknljeffpbbmaaGreatDoor
open Go Go.RowKit

theorem RdB.call {w W W' : World} {n : Array Value} {e l c : Int} {bp : Nat} (h : RdB w W n e l c) (hg : W.grownBy W' (some bp)) (hb : w.heap.size + 3 ≤ bp) : RdB w W' n e l c := by
  have hs := (Array.getElem?_eq_some_iff.1 h.c).1
  have hk : ∀ k, k < w.heap.size + 3 → W'.heap[k]? = W.heap[k]? := fun k hk => hg.block k (by omega) (fun e => by cases e; omega)
  exact ⟨⟨hg.os.trans h.below.os, hg.tape.trans h.below.tape, hg.output.trans h.below.output, Nat.le_trans h.below.size hg.size, fun k hl => (hk k (by omega)).trans (h.below.block k hl)⟩, (hk _ (by omega)).trans h.a, (hk _ (by omega)).trans h.b, (hk _ (by omega)).trans h.c⟩

set_option maxRecDepth 100000 in
set_option maxHeartbeats 4000000 in
theorem read_ok (s : ByteArray) (w : World) (hs : s.size ≤ 9223372036854775807) (hw : StdE w) (ts : List Tok) (hl : lexL s.data.toList = .ok ts) (hne : readL s.data.toList ≠ none) :
    Calls Tryz.prog 60 #[.string s] w (PRead s w) := by
  have hmf : ∀ (fn : Fn) (first cap : Array Value) (w : World), (Instr.makeFunc fn first cap).run Tryz.prog w = .ok (.func fn first cap) w := fun _ _ _ _ => rfl
  have hb0 := rdB_start w
  have Hall := Lib.hid (all_any s _ hs (hw.below hb0.below))
  have H0 := Lib.hid hb0
  have hshort := lexL_short hl
  have hfew := lexL_few hl
  rw [len_data] at hshort
  have Hl := Lib.hid hl
  have Hne : Hid (pStmts (endL s.data.toList) (lvl (endL s.data.toList) (ts.length + 2)) [] ts 0 ≠ .out) := Lib.hid (fun h => hne (by unfold readL; rw [hl]; simp only [h]))
  clear hb0 hw hl hne
  go_enter_defers Tryz.func60, Tryz.ntmps60
  go_wp2_with fail
  refine Hall.out.mono ?_
  rintro e w1 ⟨hb1, hq⟩
  rw [Hl.out] at hq
  obtain ⟨a, cap, rfl, hcap, hrow⟩ := hq
  have H1 := Lib.hid (H0.out.later hb1)
  have Hcap := Lib.hid hcap
  have Hrow := Lib.hid hrow
  obtain ⟨b0, b1⟩ := one_wfacts H1.out.b
  obtain ⟨c0, c1, c2, c3, c4⟩ := two_facts H1.out.c
  have hbl : w.heap.size + 1 < w1.heap.size := (Array.getElem?_eq_some_iff.1 H1.out.b).1
  clear hb1 hcap hrow Hall H0
  go_upto_region 2 with fail
  have H2 := Lib.hid ((H1.out.setB 0).setC 0 0)
  have Hrow2 : Hid (RowAt (fun b => w.heap.size + 3 ≤ b) (((w1.setCell ⟨w.heap.size + 1, 0, none⟩ (.int .i64 0)).setCell ⟨w.heap.size + 1 + 1, 0, none⟩ (.int .i64 0)).setCell ⟨w.heap.size + 1 + 1, 1, none⟩ (.int .i64 0)) a (ts.map tokD)) := Lib.hid (Hrow.out.mono fun b hb hl => by
    have hb' : w.heap.size + 3 ≤ b := by simpa using hb
    exact ⟨hb', by simpa using hl, by rw [set_other (by omega), set_other (by omega), set_other (by omega)]⟩)
  generalize World.setCell _ _ _ = W2 at H2 Hrow2 ⊢
  clear b0 b1 c0 c1 c2 c3 c4 hbl H1 Hrow
  obtain ⟨b0, b1⟩ := one_wfacts H2.out.b
  have Hend := Lib.hid (end_any s W2 hshort)
  go_wp2_with fail
  refine Hend.out.mono ?_
  rintro e W3 ⟨rfl, hb3⟩
  have H3 := Lib.hid (H2.out.later hb3)
  have Hrow3 := Lib.hid (Hrow2.out.below hb3)
  clear b0 b1 hb3 Hend H2 Hrow2
  generalize hen : endL s.data.toList = en at Hne ⊢
  have Hen := Lib.hid hen
  clear hen
  have hsz3 : w.heap.size + 3 ≤ W3.heap.size := by
    have := (Array.getElem?_eq_some_iff.1 H3.out.c).1
    omega
  go_upto_region 7 with fail
  have hbb : Below W3.heap.size W3 ((W3.alloc (.cells #[.slice a ts.length cap, .int .i64 en.1, .int .i64 en.2, .int .i64 0] 155)).alloc (.cells #[.int .i64 0, .string ⟨#[]⟩, .int .i64 1, .int .i64 1] 157)) := ((Below.refl _ W3).alloc (Nat.le_refl _) _).alloc (by simp) _
  have H4 := Lib.hid (H3.out.later hbb)
  have Hps : Hid (PS ((W3.alloc (.cells #[.slice a ts.length cap, .int .i64 en.1, .int .i64 en.2, .int .i64 0] 155)).alloc (.cells #[.int .i64 0, .string ⟨#[]⟩, .int .i64 1, .int .i64 1] 157)) W3.heap.size en ts 0) := Lib.hid
    ⟨a, cap, by rw [Below.heap_alloc _ _ _ (by simp)]; exact heap_alloc_new W3 _, ⟨Hcap.out.1, by omega⟩, Hcap.out.2, (Hrow3.out.here.below hbb).wider (fun b hb _ => hb.2)⟩
  have Htk : Hid (((W3.alloc (.cells #[.slice a ts.length cap, .int .i64 en.1, .int .i64 en.2, .int .i64 0] 155)).alloc (.cells #[.int .i64 0, .string ⟨#[]⟩, .int .i64 1, .int .i64 1] 157)).heap[W3.heap.size + 1]? = some (.cells #[.int .i64 0, .string ⟨#[]⟩, .int .i64 1, .int .i64 1] 157 (0, 0))) := Lib.hid (by
    have := heap_alloc_new (W3.alloc (.cells #[.slice a ts.length cap, .int .i64 en.1, .int .i64 en.2, .int .i64 0] 155)) (.cells #[.int .i64 0, .string ⟨#[]⟩, .int .i64 1, .int .i64 1] 157)
    simpa using this)
  generalize hbp : W3.heap.size = bp at hsz3 Hps Htk ⊢
  generalize World.alloc _ _ = W4 at H4 Hps Htk ⊢
  clear hbp hbb H3 Hrow3 Hcap
  refine wp_region_turnsD (.s 0 (.s 1 (.s 4 (.h 2 (.h 3 (.h 5 (.h 6 (.h 7 .nil)))))))) 99 (fun W' => W'.heap[bp + 1]? = some (.cells #[.int .i64 0, .string ⟨#[]⟩, .int .i64 1, .int .i64 1] 157 (0, 0))) (by kernel_rfl) (by kernel_rfl) (readQ (fun _ _ _ => rfl) (by kernel_rfl)) Htk.out ?_
  have H5 := Lib.hid (H4.out.later ((Below.refl _ W4).drew))
  have Hps5 := Lib.hid (Hps.out.grown ((Below.refl _ W4).drew))
  have Htk5 : Hid (W4.drew.heap[bp + 1]? = some (.cells #[.int .i64 0, .string ⟨#[]⟩, .int .i64 1, .int .i64 1] 157 (0, 0))) := Lib.hid Htk.out
  generalize W4.drew = W5 at H5 Hps5 Htk5 ⊢
  clear H4 Hps Htk
  refine turn_steady (.agg #[.int .i64 0, .string ⟨#[]⟩, .int .i64 1, .int .i64 1]) rfl rfl (fun W' hS => ?_) ?_
  · obtain ⟨s0, s1, s2, s3, s4⟩ := four_facts hS
    clear hS
    go_simp
  try simp only [List.getElem_toArray, List.getElem_cons_zero, Act.put, List.setIfInBounds_toArray, List.set_cons_zero, List.set_cons_succ]
  refine turn_steady (.pointer (some ⟨bp, 0, none⟩)) rfl rfl (fun W' hS => ?_) ?_
  · go_simp
  try simp only [List.getElem_toArray, List.getElem_cons_succ, List.getElem_cons_zero, Act.put, List.setIfInBounds_toArray, List.set_cons_zero, List.set_cons_succ]
  refine turn_steady (.agg #[.int .i64 0, .int .i64 0]) rfl rfl (fun W' hS => ?_) ?_
  · go_simp
  try simp only [List.getElem_toArray, List.getElem_cons_succ, List.getElem_cons_zero, Act.put, List.setIfInBounds_toArray, List.set_cons_zero, List.set_cons_succ]
  have Hst := Lib.hid (stmts_any bp ⟨#[]⟩ en (lvl en (ts.length + 2)) (LInc.lvl en _) (lvl_does bp en (ts.length + 2)).2.2 W5 ts 0 Hps5.out (by omega) (by omega) Hne.out)
  unfold ptr at Hst
  refine turn_heavy rfl (fun Kx hKx => ?_)
  go_wp2_with fail
  refine Hst.out.mono ?_
  rintro e W6 ⟨hg6, hq⟩
  have H6 := Lib.hid (H5.out.call hg6 hsz3)
  have Htk6 := Lib.hid ((hg6.block (bp + 1) (Array.getElem?_eq_some_iff.1 Htk5.out).1 (fun e => by cases e)).trans Htk5.out)
  have hbl6 : bp < W5.heap.size := Hps5.out.lt
  have hs6 := hg6.size
  cases hm : pStmts en (lvl en (ts.length + 2)) [] ts 0 with
  | out => exact absurd hm Hne.out
  | err x l c =>
    have hq' : PP bp en (VRow W5.heap.size) (.err x l c) W5 e W6 := by rw [← hm]; exact ⟨hg6, hq⟩
    obtain rfl := hq'.2
    have Hr : Hid (readL s.data.toList = some (.error (x, l, c))) := Lib.hid (by unfold readL; rw [Hl.out]; simp only [Hen.out, hm])
    clear hm hq hq' hg6 hKx
    refine leaves_cons (f := 101) (args := #[.pointer (some ⟨w.heap.size, 0, none⟩), .pointer (some ⟨w.heap.size + 1, 0, none⟩), .pointer (some ⟨w.heap.size + 1 + 1, 0, none⟩)]) (by simp) (by simp [go_sem]) ?_
    refine (caught_wrong w W6 _ _ _ _ _ _ _ _ x l c H6.out).mono ?_
    rintro e u w2 ⟨rfl, rfl, h2⟩
    obtain ⟨r0, r1, r2, r3, r4, r5, r6, r7, r8, r9, r10⟩ := five_facts h2.a
    obtain ⟨b0, b1⟩ := one_wfacts h2.b
    obtain ⟨c0, c1, c2, c3, c4⟩ := two_facts h2.c
    refine ⟨.tuple #[.agg zeroNode, .int .i64 x, .agg #[.int .i64 l, .int .i64 c]], by simp [zeroNode, results, Tryz.results60, go_sem, r1, r2, r3, r4, r5, b0, c1, c2], ?_⟩
    refine ⟨h2.below, ?_⟩
    rw [Hr.out]
  | ok x ts' dp' =>
    have hq' : PP bp en (VRow W5.heap.size) (.ok x ts' dp') W5 e W6 := by rw [← hm]; exact ⟨hg6, hq⟩
    obtain ⟨-, -, v, rfl, a2, cap2, rfl, hrow⟩ := hq'
    have Hr : Hid (readL s.data.toList = some (.ok (.mk 1 ⟨#[]⟩ 1 1 x))) := Lib.hid (by unfold readL; rw [Hl.out]; simp only [Hen.out, hm])
    have Hrow6 := Lib.hid hrow
    clear hm hq hg6 hrow
    go_wp2_with fail
    refine hKx _ _ (fun _ => Htk6.out) ?_
    try simp only [List.getElem_toArray, List.getElem_cons_succ, List.getElem_cons_zero, Act.put, List.setIfInBounds_toArray, List.set_cons_zero, List.set_cons_succ]
    clear hKx
    have Hnd := Lib.hid (node_any 1 ⟨0, ⟨#[]⟩, 1, 1⟩ ⟨#[]⟩ a2 x.length cap2 W6)
    unfold tokV nodeC at Hnd
    refine turn_heavy rfl (fun Ky hKy => ?_)
    go_wp2_with fail
    refine Hnd.out.mono ?_
    rintro e W7 ⟨rfl, hb7⟩
    have H7 := Lib.hid (H6.out.later hb7)
    have Htk7 := Lib.hid ((hb7.block _ (Array.getElem?_eq_some_iff.1 Htk6.out).1).trans Htk6.out)
    have Hrow7 := Lib.hid (Hrow6.out.below hb7)
    clear hb7 Hnd H6 Htk6 Hrow6
    go_wp2_with fail
    refine hKy _ _ (fun _ => Htk7.out) ?_
    try simp only [List.getElem_toArray, List.getElem_cons_succ, List.getElem_cons_zero, Act.put, List.setIfInBounds_toArray, List.set_cons_zero, List.set_cons_succ]
    clear hKy
    obtain ⟨r0, r1, r2, r3, r4, r5, r6, r7, r8, r9, r10⟩ := five_facts H7.out.a
    refine turn_heavy rfl (fun Kz hKz => ?_)
    go_wp2_with fail
    have H8 := Lib.hid (H7.out.setA (.int .i64 1) (.string ⟨#[]⟩) (.int .i64 1) (.int .i64 1) (.slice a2 x.length cap2))
    have Htk8 := Lib.hid ((set5_other (W := W7) (b := w.heap.size) (k := bp + 1) (by omega) (.int .i64 1) (.string ⟨#[]⟩) (.int .i64 1) (.int .i64 1) (.slice a2 x.length cap2)).trans Htk7.out)
    have Hrow8 : Hid (RowAt (fun b => w.heap.size + 3 ≤ b) (((((W7.setCell ⟨w.heap.size, 0, none⟩ (.int .i64 1)).setCell ⟨w.heap.size, 1, none⟩ (.string ⟨#[]⟩)).setCell ⟨w.heap.size, 2, none⟩ (.int .i64 1)).setCell ⟨w.heap.size, 3, none⟩ (.int .i64 1)).setCell ⟨w.heap.size, 4, none⟩ (.slice a2 x.length cap2)) a2 (nodesD x)) := Lib.hid (Hrow7.out.mono fun b hb hl => ⟨by omega, by simpa using hl, set5_other (by omega) _ _ _ _ _⟩)
    refine hKz _ _ (fun _ => Htk8.out) ?_
    generalize World.setCell _ _ _ = W8 at H8 Htk8 Hrow8 ⊢
    try simp only [List.getElem_toArray, List.getElem_cons_succ, List.getElem_cons_zero, Act.put, List.setIfInBounds_toArray, List.set_cons_zero, List.set_cons_succ]
    clear r0 r1 r2 r3 r4 r5 r6 r7 r8 r9 r10 hKz H7 Htk7 Hrow7
    obtain ⟨b0, b1⟩ := one_wfacts H8.out.b
    refine turn_heavy rfl (fun Ku hKu => ?_)
    go_wp2_with fail
    have H9 := Lib.hid (H8.out.setB 0)
    have Htk9 := Lib.hid ((set_other (w := W8) (b := w.heap.size + 1) (k := bp + 1) (by omega) 0 (.int .i64 0)).trans Htk8.out)
    have Hrow9 : Hid (RowAt (fun b => w.heap.size + 3 ≤ b) (W8.setCell ⟨w.heap.size + 1, 0, none⟩ (.int .i64 0)) a2 (nodesD x)) := Lib.hid (Hrow8.out.mono fun b hb hl => ⟨hb, by simpa using hl, set_other (by omega) _ _⟩)
    refine hKu _ _ (fun _ => Htk9.out) ?_
    generalize World.setCell _ _ _ = W9 at H9 Htk9 Hrow9 ⊢
    try simp only [List.getElem_toArray, List.getElem_cons_succ, List.getElem_cons_zero, Act.put, List.setIfInBounds_toArray, List.set_cons_zero, List.set_cons_succ]
    clear b0 b1 hKu H8 Htk8 Hrow8
    obtain ⟨c0, c1, c2, c3, c4⟩ := two_facts H9.out.c
    refine turn_heavy rfl (fun Kv hKv => ?_)
    go_wp2_with fail
    have Ha := Lib.hid (H9.out.setC 0 0)
    have Htka := Lib.hid (((set_other (w := W9.setCell ⟨w.heap.size + 1 + 1, 0, none⟩ (.int .i64 0)) (b := w.heap.size + 1 + 1) (k := bp + 1) (by omega) 1 (.int .i64 0)).trans (set_other (by omega) 0 (.int .i64 0))).trans Htk9.out)
    have Hrowa : Hid (RowAt (fun b => w.heap.size + 3 ≤ b) ((W9.setCell ⟨w.heap.size + 1 + 1, 0, none⟩ (.int .i64 0)).setCell ⟨w.heap.size + 1 + 1, 1, none⟩ (.int .i64 0)) a2 (nodesD x)) := Lib.hid (Hrow9.out.mono fun b hb hl => ⟨hb, by simpa using hl, by rw [set_other (by omega), set_other (by omega)]⟩)
    refine hKv _ _ (fun _ => Htka.out) ?_
    generalize World.setCell _ _ _ = Wa at Ha Htka Hrowa ⊢
    refine turn_end ?_
    try simp only [List.getElem_toArray, List.getElem_cons_succ, List.getElem_cons_zero, Act.put, List.setIfInBounds_toArray, List.set_cons_zero, List.set_cons_succ]
    clear c0 c1 c2 c3 c4 hKv H9 Htk9 Hrow9
    go_wp2_with fail
    refine leaves_cons (f := 101) (args := #[.pointer (some ⟨w.heap.size, 0, none⟩), .pointer (some ⟨w.heap.size + 1, 0, none⟩), .pointer (some ⟨w.heap.size + 1 + 1, 0, none⟩)]) (by simp) (by simp [go_sem]) ?_
    refine (caught_none w Wa _ _ _ _ Ha.out).mono ?_
    rintro e u w2 ⟨rfl, rfl, h2, hb2⟩
    obtain ⟨r0, r1, r2, r3, r4, r5, r6, r7, r8, r9, r10⟩ := five_facts h2.a
    obtain ⟨b0, b1⟩ := one_wfacts h2.b
    obtain ⟨c0, c1, c2, c3, c4⟩ := two_facts h2.c
    refine ⟨.tuple #[.agg #[.int .i64 1, .string ⟨#[]⟩, .int .i64 1, .int .i64 1, .slice a2 x.length cap2], .int .i64 0, .agg #[.int .i64 0, .int .i64 0]], by simp [results, Tryz.results60, go_sem, r1, r2, r3, r4, r5, b0, c1, c2], ?_⟩
    refine ⟨h2.below, ?_⟩
    rw [Hr.out]
    exact ⟨_, rfl, NodeV.mk _ _ _ _ _ ((Hrowa.out.below hb2).wider (fun b hb _ => by omega))⟩

/-- parse.Read. -/
theorem read_any (s : ByteArray) (w : World) (hs : s.size ≤ 9223372036854775807) (hw : StdE w) (hne : readL s.data.toList ≠ none) :
    Calls Tryz.prog 60 #[.string s] w (PRead s w) := by
  cases hl : lexL s.data.toList with
  | error x => exact read_lex s w hs hw x hl
  | ok ts => exact read_ok s w hs hw ts hl hne
end Go.Proofs.YthknljeffpbbmaaGreatDoor
