/- UniH, SpanA, SpanB, SpanC, SpanD, SpanE, PropA. -/
import Derived.Test.YtebgebgkieglhaaGreatDoorDM7
import Derived.Shelf.Spec.SlicesInsert
import Derived.Lib.AppendZerosOnto
import Derived.Laws.NewBlocks
import Derived.BigRegion
section
/- unicode: Parse. -/
namespace Go.Proofs.YtebgebgkieglhaaGreatDoor.FieldW
open Go.RowKit Go.Shelf Go.Lib Go.Proofs Go.Proofs.YtebgebgkieglhaaGreatDoorW.PrintWords Go.Proofs.YtebgebgkieglhaaGreatDoorW.PrintLast Go.Proofs.YtebgebgkieglhaaGreatDoorW.PrintMore Go.Proofs.YtebgebgkieglhaaGreatDoor.PRef
set_option linter.unusedVariables false
set_option linter.unusedSimpArgs false
attribute [local go_sem] Oper.semAt_some

theorem results_three {fn : Func} {ty : TypeId} {e : TypeId} (h : fn.results = #[.cell 2 ty, .cell 3 28, .cell 4 3]) (hty : Tryz.prog.underlying ty = some (.pointer e)) (tmps : Array Value) (w : World) (a b c : Addr) (v : Option Addr) (n m : Int)
    (ha : tmps.getD 2 undef = .pointer (some a)) (hb : tmps.getD 3 undef = .pointer (some b)) (hc : tmps.getD 4 undef = .pointer (some c)) (hv : w.cell? a = some (.pointer v)) (hn : w.cell? b = some (.int .i64 n)) (hm : w.cell? c = some (.int .i64 m)) :
    (results fn tmps).run Tryz.prog w = .ok (.tuple #[.pointer v, .int .i64 n, .int .i64 m]) w := by
  have ha' : tmps[2]?.getD undef = .pointer (some a) := by simpa using ha
  have hb' : tmps[3]?.getD undef = .pointer (some b) := by simpa using hb
  have hc' : tmps[4]?.getD undef = .pointer (some c) := by simpa using hc
  have hu2 := Tryz.underlying28
  have hu3 := Tryz.underlying3
  have hag : ∀ w, (isAgg ty).run Tryz.prog w = .ok false w := run_isAgg_plain hty rfl
  simp [results, h, ha', hb', hc', asAddr]
  go_simp
theorem three_cells {w : World} {H : Nat} {a a' b b' c c' : Value} {ta tb tc : TypeId} (k0 : w.heap[H]? = some (.cells #[a] ta (0, 0))) (k1 : w.heap[H + 1]? = some (.cells #[b] tb (0, 0))) (k2 : w.heap[H + 1 + 1]? = some (.cells #[c] tc (0, 0))) :
    (((w.setCell ⟨H, 0, none⟩ a').setCell ⟨H + 1, 0, none⟩ b').setCell ⟨H + 1 + 1, 0, none⟩ c').heap[H]? = some (.cells #[a'] ta (0, 0)) ∧ (((w.setCell ⟨H, 0, none⟩ a').setCell ⟨H + 1, 0, none⟩ b').setCell ⟨H + 1 + 1, 0, none⟩ c').heap[H + 1]? = some (.cells #[b'] tb (0, 0)) ∧
      (((w.setCell ⟨H, 0, none⟩ a').setCell ⟨H + 1, 0, none⟩ b').setCell ⟨H + 1 + 1, 0, none⟩ c').heap[H + 1 + 1]? = some (.cells #[c'] tc (0, 0)) ∧ (∀ k, k ≠ H → k ≠ H + 1 → k ≠ H + 1 + 1 → (((w.setCell ⟨H, 0, none⟩ a').setCell ⟨H + 1, 0, none⟩ b').setCell ⟨H + 1 + 1, 0, none⟩ c').heap[k]? = w.heap[k]?) := by
  have far : ∀ (W : World) (p k : Nat) (u : Value), k ≠ p → (W.setCell ⟨p, 0, none⟩ u).heap[k]? = W.heap[k]? := fun W p k u h => Go.RowKit.Below.heap_setCell W ⟨p, 0, none⟩ u k h
  refine ⟨(far _ _ _ _ (by omega)).trans ((far _ _ _ _ (by omega)).trans (blk_set k0 0 a')), (far _ _ _ _ (by omega)).trans (blk_set ((far _ _ _ _ (by omega)).trans k1) 0 b'), blk_set ((far _ _ _ _ (by omega)).trans ((far _ _ _ _ (by omega)).trans k2)) 0 c', fun k h0 h1 h2 => (far _ _ _ _ h2).trans ((far _ _ _ _ h1).trans (far _ _ _ _ h0))⟩
/-- A table of rows in memory. -/
def UTab (w : World) (base g : Nat) (rs : List URow) : Prop := ∃ v, w.heap[g]? = some (.cells #[v] 76 (0, 0)) ∧ base ≤ g ∧ Kd.R rowK 40 w base (fun k => k ≠ g) v rs
/-- A table of these rows, or none. -/
def resU (base : Nat) (r : Option (List URow)) (p : Value) (w : World) : Prop := match r with
  | none => p = .pointer none
  | some rs => ∃ g, p = .pointer (some ⟨g, 0, none⟩) ∧ UTab w base g rs
/-- Which blocks the parser's rows may lie in. -/
def okZ (H : Nat) (K Z : Nat → Prop) (k : Nat) : Prop := k ≠ H + 3 ∧ ¬ Z k ∧ ¬ K k
/-- Between two lines. -/
def uI (w : World) (K Z : Nat → Prop) (pre : List (Nat × List ByteArray)) (W : World) : Prop :=
  ∃ v s, foldU pre s0 = (0, 0, s) ∧ okS s ∧ s.rs.length ≤ pre.length ∧ W.heap[w.heap.size]? = some (.cells #[.pointer none] 35 (0, 0)) ∧ W.heap[w.heap.size + 1]? = some (.cells #[.int .i64 0] 28 (0, 0)) ∧ W.heap[w.heap.size + 1 + 1]? = some (.cells #[.int .i64 0] 3 (0, 0)) ∧
    W.heap[w.heap.size + 1 + 1 + 1 + 1]? = some (.cells #[.pointer (some ⟨w.heap.size + 1 + 1 + 1, 0, none⟩)] 131 (0, 0)) ∧ PSw (okZ w.heap.size K Z) W (w.heap.size + 1 + 1 + 1) (w.heap.size + 1 + 1 + 1) v s ∧ Go.RowKit.Below w.heap.size w W ∧ w.heap.size + 5 ≤ W.heap.size ∧ (∀ b, Z b ∨ K b → w.heap.size + 5 ≤ b ∧ b < W.heap.size)
theorem uI_turn {w : World} {K Z Z' : Nat → Prop} {s : List (Nat × List ByteArray)} {A B : World} {row : Option Nat} (h : uI w K Z s A) (hg : A.grownBy B row) (hr : ∀ r, row = some r → Z r) (hz : ∀ b, Z' b → Z b ∨ (A.heap.size ≤ b ∧ b < B.heap.size)) : uI w K Z' s B := by
  obtain ⟨v, st, h1, h2, h3, h4, h5, h6, h7, ⟨h8, h8R⟩, h9, h10, h11⟩ := h
  have keep : ∀ b, b < A.heap.size → (∀ r, row = some r → b ≠ r) → B.heap[b]? = A.heap[b]? := fun b hb hne => hg.block b hb (fun e => hne b e.symm rfl)
  have low : ∀ b, b < w.heap.size + 5 → B.heap[b]? = A.heap[b]? := fun b hb => keep b (by omega) (fun r e e2 => by have := h11 r (.inl (hr r e)); omega)
  have hsz := hg.size
  refine ⟨v, st, h1, h2, h3, (low _ (by omega)).trans h4, (low _ (by omega)).trans h5, (low _ (by omega)).trans h6, (low _ (by omega)).trans h7, ⟨(low _ (by omega)).trans h8, ?_⟩, ⟨hg.os.trans h9.os, hg.tape.trans h9.tape, hg.output.trans h9.output, Nat.le_trans h9.size hsz, fun k hk => (low k (by omega)).trans (h9.block k hk)⟩, by omega, fun b hb => ?_⟩
  · refine Kd.R_mono (Kd.R_step (Kd.R_bound h8R) (fun k hk hlt => keep k hlt (fun r e e2 => hk.1.2.1 (e2 ▸ hr r e)))) (fun k hk => ⟨hk.1.1, fun hz' => ?_, hk.1.2.2⟩)
    rcases hz k hz' with h | h
    · exact hk.1.2.1 h
    · have := hk.2.2.1; omega
  · rcases hb with hb | hb
    · rcases hz b hb with h | h
      · have := h11 b (.inl h); omega
      · omega
    · have := h11 b (.inr hb); omega
/-- A line that has been handed over: its variable's block, and its fields. -/
def uL (w : World) (K Z : Nat → Prop) (x : Nat × List ByteArray) (Lv : Nat) (vl : Value) (W : World) : Prop :=
  W.heap[Lv]? = some (.cells #[.int .i64 (x.1 : Int), vl] 138 (0, 0)) ∧ ¬ Z Lv ∧ Kd.R Kd.string 9 W w.heap.size (fun k => ¬ Z k) vl x.2
theorem uL_turn {w : World} {K Z Z' : Nat → Prop} {x : Nat × List ByteArray} {Lv : Nat} {vl : Value} {A B : World} {row : Option Nat} (h : uL w K Z x Lv vl A) (hg : A.grownBy B row) (hr : ∀ r, row = some r → Z r) (hz : ∀ b, Z' b → Z b ∨ (A.heap.size ≤ b ∧ b < B.heap.size)) : uL w K Z' x Lv vl B := by
  obtain ⟨h1, h2, h3⟩ := h
  have hlt := blk_lt h1
  refine ⟨(hg.block _ hlt (fun e => h2 (hr _ e.symm))).trans h1, fun hz' => ?_, ?_⟩
  · rcases hz _ hz' with h | h
    · exact h2 h
    · omega
  · refine Kd.R_mono (Kd.R_step (Kd.R_bound h3) (fun k hk hlt => hg.block k hlt (fun e => hk.1 (hr _ e.symm)))) (fun k hk hz' => ?_)
    rcases hz k hz' with h | h
    · exact hk.1 h
    · have := hk.2.2.1; omega
theorem linesOf_len : ∀ (l : List ByteArray) (i : Nat), (linesOf i l).length ≤ l.length
  | [], i => by simp [linesOf]
  | x :: r, i => by
    have := linesOf_len r (i + 1)
    rw [linesOf]
    split
    · rw [List.length_cons]; omega
    · rw [List.length_cons, List.length_cons]; omega
theorem trimS_len (l cs : List UInt8) : (Lib.trimS l cs).length ≤ l.length := by
  unfold Lib.trimS Lib.trimLeftS Lib.trimRightS
  have h1 := (List.dropWhile_sublist (p := (cs.contains ·)) (l := (l.reverse.dropWhile (cs.contains ·)).reverse)).length_le
  have h2 := (List.dropWhile_sublist (p := (cs.contains ·)) (l := l.reverse)).length_le
  simp at h1 h2 ⊢
  omega
theorem fieldsB_size (s : ByteArray) : ∀ y ∈ fieldsB s, y.size ≤ s.size := by
  intro y hy
  unfold fieldsB at hy
  split at hy
  · cases hy
  · rw [List.mem_map] at hy
    obtain ⟨z, hz, rfl⟩ := hy
    have h1 := pieceB_size 59 _ z hz
    have h2 := bodyB_len s
    have h3 := trimS_len z.data.toList [32, 9]
    have h4 : z.data.toList.length = z.size := by simp
    have h5 : (trimW z).size = (Lib.trimS z.data.toList [32, 9]).length := by show (Lib.trimS z.data.toList [32, 9]).toArray.size = _; simp
    omega
theorem linesOf_size : ∀ (l : List ByteArray) (i m : Nat), (∀ x ∈ l, x.size ≤ m) → ∀ x ∈ linesOf i l, ∀ y ∈ x.2, y.size ≤ m
  | [], i, m, h, x, hx, y, hy => by simp [linesOf] at hx
  | a :: r, i, m, h, x, hx, y, hy => by
    rw [linesOf] at hx
    split at hx
    · exact linesOf_size r (i + 1) m (fun z hz => h z (by simp [hz])) x hx y hy
    · rcases List.mem_cons.1 hx with hx | hx
      · subst hx
        exact Nat.le_trans (fieldsB_size _ y hy) (Nat.le_trans (trimCR_len a) (h a (by simp)))
      · exact linesOf_size r (i + 1) m (fun z hz => h z (by simp [hz])) x hx y hy
set_option maxHeartbeats 4000000 in
set_option maxRecDepth 100000 in
theorem parseU_calls (A : Option Addr) (c : Nat) (b : List UInt8) (w : World) (hr : Kd.C (Kd.int .u8) w A b.length (numB b)) (hl : b.length ≤ 100000) (T : Tabs w) :
    Calls Tryz.prog 57 #[.slice A b.length c] w fun e w' => ∃ p, e = .returned (.tuple #[p, .int .i64 (parseU b).2.1, .int .i64 (parseU b).2.2]) ∧ Go.RowKit.Below w.heap.size w w' ∧ resU w.heap.size (parseU b).1 p w' := by
  obtain ⟨m, hm⟩ := T.most
  refine (callsIn_wide (n := 4)).1 ?_
  refine callsIn_of_wp_marks Tryz.func57 rfl trivial ?_ rfl
  simp only [Tryz.ntmps57, List.size_toArray, List.length_cons, List.length_nil, Nat.reduceAdd, Nat.reduceSub, Array.replicate_succ, Array.replicate_zero, List.push_toArray, List.append_toArray, List.nil_append, List.cons_append]
  refine wpIn_wide.2 ?_
  have HR := Aside0.mk (And.intro hr (And.intro hl hm))
  clear hr hl hm
  go_wp2_with (go_at_call 76; refine Aside0.out ?_)
  refine Aside0.mk ?_
  obtain ⟨W0, hW0⟩ : ∃ W0, W0 = ((((w.alloc (.cells #[.pointer none] 35)).alloc (.cells #[.int .i64 0] 28)).alloc (.cells #[.int .i64 0] 3)).alloc (.cells #[.slice none 0 0, .bool false, .int .i64 0, .bool false] 133)).alloc (.cells #[.pointer (some ⟨w.heap.size + 1 + 1 + 1, 0, none⟩)] 131) := ⟨_, rfl⟩
  rw [← hW0]
  have n0 := heap_alloc_new w (.cells #[.pointer none] 35)
  have n1 := heap_alloc_new (w.alloc (.cells #[.pointer none] 35)) (.cells #[.int .i64 0] 28)
  have n2 := heap_alloc_new ((w.alloc (.cells #[.pointer none] 35)).alloc (.cells #[.int .i64 0] 28)) (.cells #[.int .i64 0] 3)
  have n3 := heap_alloc_new (((w.alloc (.cells #[.pointer none] 35)).alloc (.cells #[.int .i64 0] 28)).alloc (.cells #[.int .i64 0] 3)) (.cells #[.slice none 0 0, .bool false, .int .i64 0, .bool false] 133)
  have n4 := heap_alloc_new ((((w.alloc (.cells #[.pointer none] 35)).alloc (.cells #[.int .i64 0] 28)).alloc (.cells #[.int .i64 0] 3)).alloc (.cells #[.slice none 0 0, .bool false, .int .i64 0, .bool false] 133)) (.cells #[.pointer (some ⟨w.heap.size + 1 + 1 + 1, 0, none⟩)] 131)
  rw [World.size_alloc] at n1
  rw [World.size_alloc, World.size_alloc] at n2
  rw [World.size_alloc, World.size_alloc, World.size_alloc] at n3
  rw [World.size_alloc, World.size_alloc, World.size_alloc, World.size_alloc] at n4
  have up : ∀ (W : World) (o : Obj) (k : Nat) (u : Obj), W.heap[k]? = some u → (W.alloc o).heap[k]? = some u := fun W o k u h => (Go.RowKit.Below.heap_alloc _ _ _ (Array.getElem?_eq_some_iff.1 h).1).trans h
  have q0 : W0.heap[w.heap.size]? = some (.cells #[.pointer none] 35 (0, 0)) := by rw [hW0]; exact up _ _ _ _ (up _ _ _ _ (up _ _ _ _ (up _ _ _ _ n0)))
  have q1 : W0.heap[w.heap.size + 1]? = some (.cells #[.int .i64 0] 28 (0, 0)) := by rw [hW0]; exact up _ _ _ _ (up _ _ _ _ (up _ _ _ _ n1))
  have q2 : W0.heap[w.heap.size + 1 + 1]? = some (.cells #[.int .i64 0] 3 (0, 0)) := by rw [hW0]; exact up _ _ _ _ (up _ _ _ _ n2)
  have q3 : W0.heap[w.heap.size + 1 + 1 + 1]? = some (.cells #[.slice none 0 0, .bool false, .int .i64 0, .bool false] 133 (0, 0)) := by rw [hW0]; exact up _ _ _ _ n3
  have q4 : W0.heap[w.heap.size + 1 + 1 + 1 + 1]? = some (.cells #[.pointer (some ⟨w.heap.size + 1 + 1 + 1, 0, none⟩)] 131 (0, 0)) := by rw [hW0]; exact n4
  have hs0 : W0.heap.size = w.heap.size + 5 := by rw [hW0]; simp
  have hb0 : Go.RowKit.Below w.heap.size w W0 := by rw [hW0]; exact below_alloc (below_alloc (below_alloc (below_alloc (below_alloc (Go.RowKit.Below.refl _ _) _) _) _) _) _
  have T0 := T.below hb0
  refine (lines_calls A c b W0 m (Kd.C_below HR.out.1 hb0) (by have := HR.out.2.1; omega) ((hb0.cell (p := ⟨1, 0, none⟩) (lt_of_cell HR.out.2.2)).trans HR.out.2.2)).mono ?_
  rintro e Wr ⟨Bc, B, rfl, g1, g2, g3, g4, hbr⟩
  obtain ⟨ls, hls⟩ : ∃ ls, ls = pieceB 10 ⟨b.toArray⟩ := ⟨_, rfl⟩
  rw [← hls] at g3 g4
  have hsz0 : (⟨b.toArray⟩ : ByteArray).size = b.length := by show b.toArray.size = _; simp
  have hll : ls.length ≤ 100001 := by
    have h1 := cutC_len 10 (⟨b.toArray⟩ : ByteArray).data.toList
    have h2 := HR.out.2.1
    rw [hls]
    simp [pieceB] at h1 ⊢
    omega
  have hlsz : ∀ x ∈ ls, x.size ≤ 1000000 := fun x hx => by
    have h1 := pieceB_size 10 _ x (hls ▸ hx)
    have h2 := HR.out.2.1
    omega
  have hseq := lines_own (w := Wr) (Bc := Bc) (B := B) (n0 := w.heap.size) (m := m) (ls := ls) ((hbr.cell (p := ⟨1, 0, none⟩) (lt_of_cell ((hb0.cell (p := ⟨1, 0, none⟩) (lt_of_cell HR.out.2.2)).trans HR.out.2.2))).trans ((hb0.cell (p := ⟨1, 0, none⟩) (lt_of_cell HR.out.2.2)).trans HR.out.2.2)) (by have := T.size; omega) (by have := hbr.size; omega) g3 g4 (by omega) hlsz
  have r0 := (hbr.block _ (blk_lt q0)).trans q0
  have r1 := (hbr.block _ (blk_lt q1)).trans q1
  have r2 := (hbr.block _ (blk_lt q2)).trans q2
  have r3 := (hbr.block _ (blk_lt q3)).trans q3
  have r4 := (hbr.block _ (blk_lt q4)).trans q4
  have hbw : Go.RowKit.Below w.heap.size w Wr := hb0.trans (hbr.mono hb0.size)
  have HQ := Aside0.mk (And.intro r0 (And.intro r1 (And.intro r2 (And.intro r3 (And.intro r4 (And.intro hbw (And.intro hbr.size hs0)))))))
  have HS := Aside0.mk (And.intro hseq (And.intro g1 (And.intro g2 (And.intro (blk_lt g3) (blk_lt g4)))))
  have HLS := Aside0.mk (And.intro hls (And.intro hll hlsz))
  clear hW0 n0 n1 n2 n3 n4 up q0 q1 q2 q3 q4 hb0 T0 hbr hls hll hlsz hseq r0 r1 r2 r3 r4 hbw g1 g2 g3 g4 hs0
  go_wp2
  refine (wpIn_wide (n := 4)).1 ?_
  refine range_E (n := 4) (by omega) (gf := 95) (lb := #[.pointer (some ⟨Bc, 0, none⟩)]) rfl (enters_of Tryz.func95 (by kernel_rfl) rfl) (lineE_abides w.heap.size) HS.out.1 (Go.RowKit.Below.refl _ _) (by have := HQ.out.2.2.2.2.2.2.1; have := HQ.out.2.2.2.2.2.2.2; omega) (fun b hb => hb.elim) (fun b hb => by rcases hb with rfl | rfl; exact HS.out.2.2.2.1; exact HS.out.2.2.2.2) (fun Z x us W h => by obtain ⟨v, rfl, _⟩ := h; rfl)
    (uI w (fun b => b = Bc ∨ b = B))
    (fun Z q W => ∃ Lv vl, q.2.2 = { tmps := #[.slice A b.length c, undef, .pointer (some ⟨w.heap.size, 0, none⟩), .pointer (some ⟨w.heap.size + 1, 0, none⟩), .pointer (some ⟨w.heap.size + 1 + 1, 0, none⟩), .pointer (some ⟨w.heap.size + 1 + 1 + 1 + 1, 0, none⟩), .pointer (some ⟨Lv, 0, none⟩), undef, undef, .agg #[.slice none 0 0, .bool false, .int .i64 0, .bool false], .pointer (some ⟨w.heap.size + 1 + 1 + 1, 0, none⟩), .slice A b.length c, .func (.func 95) #[] #[.pointer (some ⟨Bc, 0, none⟩)], .agg #[.int .i64 (q.2.1.1 : Int), vl], undef, undef, undef, undef, undef, undef, undef, undef, undef, undef, undef, undef, undef, undef, undef, undef, undef, undef, undef, undef, undef, undef, undef, undef], defers := [] } ∧ uI w (fun b => b = Bc ∨ b = B) Z q.1 W ∧ uL w (fun b => b = Bc ∨ b = B) Z q.2.1 Lv vl W ∧ w.heap.size + 5 ≤ Lv ∧ Lv ≠ Bc ∧ Lv ≠ B)
    (fun cd q W => cd = Code.ret ∧ ∃ t : Int × Int × PSt, t.1 ≠ 0 ∧ foldU (linesOf 0 ls) s0 = t ∧ W.heap[w.heap.size]? = some (.cells #[.pointer none] 35 (0, 0)) ∧ W.heap[w.heap.size + 1]? = some (.cells #[.int .i64 t.1] 28 (0, 0)) ∧ W.heap[w.heap.size + 1 + 1]? = some (.cells #[.int .i64 t.2.1] 3 (0, 0)) ∧ Go.RowKit.Below w.heap.size w W)
    (fun Z Z' q A B row h hg hr hz => uI_turn h hg hr hz) ?ax ?ix ?h0 ?assign ?body ?done ?stop
  case ax =>
    rintro Z Z' ⟨pre, x, a'⟩ A B row ⟨Lv, vl, e, h, h2, h3⟩ hg hr hz
    exact ⟨Lv, vl, e, uI_turn h hg hr hz, uL_turn h2 hg hr hz, h3⟩
  case ix =>
    rintro cc q W lp r o hlp hl ⟨h1, t, h2, h3, h4, h5, h6, h7⟩
    have hh := HQ.out.2.2.2.2.2.2.1
    have hh2 := HQ.out.2.2.2.2.2.2.2
    exact ⟨h1, t, h2, h3, (World.putObj_heap_other (by omega)).trans h4, (World.putObj_heap_other (by omega)).trans h5, (World.putObj_heap_other (by omega)).trans h6, h7.trans (below_put _ _ _ _ (by omega))⟩
  case h0 =>
    have hh := HQ.out.2.2.2.2.2.2.1
    have hh2 := HQ.out.2.2.2.2.2.2.2
    have hS := HS.out
    refine ⟨.slice none 0 0, s0, rfl, (fun h => by cases h), Nat.le_refl _, HQ.out.1, HQ.out.2.1, HQ.out.2.2.1, HQ.out.2.2.2.2.1, ⟨HQ.out.2.2.2.1, Kd.R_nil _ _ _ _ _⟩, HQ.out.2.2.2.2.2.1, by omega, fun b hb => ?_⟩
    rcases hb with hb | hb | hb
    · exact hb.elim
    · rw [hb]; exact ⟨by omega, hS.2.2.2.1⟩
    · rw [hb]; exact ⟨by omega, hS.2.2.2.2⟩
  case assign =>
    rintro lp Z pre x r us W Kc hI hx2 ⟨vl, rfl, hvl⟩ hK2
    have HI := Aside0.mk (And.intro hI hvl)
    clear hI hx2 hvl
    obtain ⟨A5, c5, rfl⟩ := Kd.R_slice HI.out.2
    gi_wp2
    obtain ⟨v5, st5, f1, f2, f3, d0, d1, d2, d4, dP, dB, dS, dZ⟩ := HI.out.1
    refine hK2 _ _ (fun b hb => Go.RowKit.Below.heap_alloc _ _ _ (dZ b hb).2) (below_alloc (Go.RowKit.Below.refl _ _) _ |>.mono dB.size) ⟨W.heap.size, _, rfl, uI_turn HI.out.1 (grown_alloc W _) (fun r e => by cases e) (fun b hb => .inl hb), ⟨heap_alloc_new _ _, (fun h => by have := (dZ _ (.inl h)).2; omega), Kd.R_alloc HI.out.2 _⟩, dS, (fun h => by have := (dZ Bc (.inr (.inl rfl))).2; omega), (fun h => by have := (dZ B (.inr (.inr rfl))).2; omega)⟩
  case body =>
    rintro lp Z pre x r a' W ⟨Lv, vl, ha, hI, hL, h5, hnb, hnB⟩ hx2
    dsimp only at ha hI hL
    subst ha
    obtain ⟨v5, st5, f1, f2, f3, d0, d1, d2, d4, dP, dB, dS, dZ⟩ := hI
    obtain ⟨A5, c5, rfl⟩ := Kd.R_slice hL.2.2
    have hpre : pre.length ≤ 100001 := by
      have h1 := congrArg List.length hx2
      have h2 := linesOf_len ls 0
      have h3 := HLS.out.2.1
      simp at h1
      omega
    have hfs : ∀ y ∈ x.2, y.size ≤ 1000000 := fun y hy => linesOf_size ls 0 1000000 HLS.out.2.2 x (by rw [hx2]; simp) y hy
    have hT9 := T.size
    have CT := take_calls (okZ w.heap.size (fun b => b = Bc ∨ b = B) Z) v5 (w.heap.size + 1 + 1 + 1) (w.heap.size + 1 + 1 + 1) st5 x.1 A5 c5 x.2 (rowS x.2).1 (rowS x.2).2 W dP (fun h => h.1 rfl) (fun k hk => ⟨by omega, (fun hz => by have := (dZ k (.inl hz)).2; omega), (fun hz => by have := (dZ k (.inr hz)).2; omega)⟩) (Nat.le_refl _) (by omega) w.heap.size (Kd.R_mono hL.2.2 (fun _ _ => trivial)) (by omega) hfs (T.below dB) (rowS_eq x.2 hfs) (rowS_len x.2) f2
    obtain ⟨t, ht⟩ : ∃ t, t = takeS st5 x.1 x.2 (rowS x.2).1 (rowS x.2).2 := ⟨_, rfl⟩
    rw [← ht] at CT
    obtain ⟨t1, t2, t3⟩ := t
    have hok3 := takeS_ok st5 x.1 x.2 (rowS x.2).1 (rowS x.2).2 f2
    rw [← ht] at hok3
    have hsn := foldU_snoc pre s0 st5 x.1 x.2 [] f1
    have hsn2 := foldU_snoc pre s0 st5 x.1 x.2 r f1
    rw [← ht] at hsn hsn2
    have e4 : W.cell? ⟨w.heap.size + 1 + 1 + 1 + 1, 0, none⟩ = some _ := (blk_cell d4 0).trans rfl
    have l0 : W.cell? ⟨Lv, 0, none⟩ = some _ := (blk_cell hL.1 0).trans rfl
    have l1 : W.cell? ⟨Lv, 1, none⟩ = some _ := (blk_cell hL.1 1).trans rfl
    have hown : ∀ k, v5.ownBlock = some k → okZ w.heap.size (fun b => b = Bc ∨ b = B) Z k ∧ k ≠ w.heap.size + 1 + 1 + 1 + 1 := fun k hk => by
      have hh := (Kd.R_bound dP.2).1 k hk
      refine ⟨hh.1, fun e => ?_⟩
      obtain ⟨q, hq, cells, hc⟩ := hh.2.2.2
      rw [e, d4] at hc
      injection hc with hc
      injection hc with _ hc
      subst hc
      simp [rowK, Kd.iso, Kd.pair, Kd.int, Kd.string, Kd.slice, Kd.scalar] at hq
    have HOWN := Aside0.mk hown
    clear hown
    have HCT := Aside0.mk CT
    have HX := Aside0.mk (And.intro hx2 (And.intro hsn (And.intro hsn2 (And.intro hok3 f3))))
    have HD := Aside0.mk (And.intro d0 (And.intro d1 (And.intro d2 (And.intro d4 (And.intro dB (And.intro dS dZ))))))
    clear CT hx2 hsn hsn2 hok3 f1 f2 f3 d0 d1 d2 d4 dP dB dS dZ hfs ht hL
    by_cases he : t1 = 0
    · have heb : (t1 != 0) = false := bne_eq_false_iff_eq.2 he
      have HE := Aside0.mk he
      clear he
      gi_wp2_with (refine ⟨trivial, ?_⟩; gi_at_call 77; refine (CallsIn.inRound lp (callsIn_wide.2 HCT.out)).mono ?_; rintro e2 w2 ⟨rfl, hb2, v2, hps2, hfr2⟩; have H2 := Aside0.mk (And.intro hb2 (And.intro hps2 hfr2)); clear hb2 hps2 hfr2)
      obtain ⟨hb2, hps2, hfr2⟩ := H2.out
      obtain ⟨d0, d1, d2, d4, dB, dS, dZ⟩ := HD.out
      refine ⟨fun b_ hb_ => hfr2.1 b_ (dZ b_ hb_).2 (by have := (dZ b_ hb_).1; omega) (fun e => ?_), hb2.mono (by omega), v2, t3, ?_, HX.out.2.2.2.1.1, ?_, (hb2.block _ (by omega)).trans d0, (hb2.block _ (by omega)).trans d1, (hb2.block _ (by omega)).trans d2, (hfr2.1 _ (blk_lt d4) (by omega) (fun e => (HOWN.out _ e).2 rfl)).trans d4, hps2, dB.trans (hb2.mono (by omega)), Nat.le_trans dS hb2.size, fun b_ hb_ => ⟨(dZ b_ hb_).1, Nat.lt_of_lt_of_le (dZ b_ hb_).2 hb2.size⟩⟩
      · rcases hb_ with h | h
        · exact (HOWN.out _ e).1.2.1 h
        · exact (HOWN.out _ e).1.2.2 h
      · have h := HX.out.2.1
        rw [if_pos HE.out] at h
        exact h
      · have h1 := HX.out.2.2.2.1.2
        have h2 := HX.out.2.2.2.2
        have h3 : (pre ++ [x]).length = pre.length + 1 := by simp
        rw [h3]
        exact Nat.le_trans h1 (by omega)
    · have heb : (t1 != 0) = true := bne_iff_ne.2 he
      gi_wp2_with (refine ⟨trivial, ?_⟩; gi_at_call 77; refine (CallsIn.inRound lp (callsIn_wide.2 HCT.out)).mono ?_; rintro e2 w2 ⟨rfl, hb2, v2, hps2, hfr2⟩; have k0 := (hb2.block w.heap.size (by omega)).trans HD.out.1; have k1 := (hb2.block (w.heap.size + 1) (by omega)).trans HD.out.2.1; have k2 := (hb2.block (w.heap.size + 1 + 1) (by omega)).trans HD.out.2.2.1; have y0 : w2.cell? ⟨w.heap.size, 0, none⟩ = some _ := (blk_cell k0 0).trans rfl; have y1 : w2.cell? ⟨w.heap.size + 1, 0, none⟩ = some _ := (blk_cell k1 0).trans rfl; have y2 : w2.cell? ⟨w.heap.size + 1 + 1, 0, none⟩ = some _ := (blk_cell k2 0).trans rfl; have z0 := blk_frozen k0 0; have z1 := blk_frozen k1 0; have z2 := blk_frozen k2 0; have H2 := Aside0.mk (And.intro hb2 (And.intro hfr2 (And.intro k0 (And.intro k1 k2)))); clear hb2 hps2 hfr2 k0 k1 k2)
      obtain ⟨hb2, hfr2, k0, k1, k2⟩ := H2.out
      obtain ⟨d0, d1, d2, d4, dB, dS, dZ⟩ := HD.out
      obtain ⟨j0, j1, j2, jf⟩ := three_cells (a' := .pointer none) (b' := .int .i64 t1) (c' := .int .i64 t2) k0 k1 k2
      refine ⟨fun b_ hb_ => ?_, rfl, (t1, t2, t3), he, ?_, j0, j1, j2, ?_⟩
      · have := (dZ b_ hb_).1
        refine (jf b_ (by omega) (by omega) (by omega)).trans (hfr2.1 b_ (dZ b_ hb_).2 (by omega) (fun e => ?_))
        rcases hb_ with h | h
        · exact (HOWN.out _ e).1.2.1 h
        · exact (HOWN.out _ e).1.2.2 h
      · have h := HX.out.2.2.1
        rw [if_neg he] at h
        rw [HX.out.1]
        exact h
      · exact (((dB.trans (hb2.mono (by omega))).setCell (p := ⟨w.heap.size, 0, none⟩) (Nat.le_refl _) _).setCell (p := ⟨w.heap.size + 1, 0, none⟩) (by show w.heap.size ≤ w.heap.size + 1; omega) _).setCell (p := ⟨w.heap.size + 1 + 1, 0, none⟩) (by show w.heap.size ≤ w.heap.size + 1 + 1; omega) _
  case done =>
    rintro Z W hI hDf
    obtain ⟨v5, st5, f1, f2, f3, d0, d1, d2, d4, dP, dB, dS, dZ⟩ := hI
    obtain ⟨A5, c5, rfl⟩ := Kd.R_slice dP.2
    have e4 : W.cell? ⟨w.heap.size + 1 + 1 + 1 + 1, 0, none⟩ = some _ := (blk_cell d4 0).trans rfl
    have p0 : W.cell? ⟨w.heap.size + 1 + 1 + 1, 0, none⟩ = some _ := (blk_cell dP.1 0).trans rfl
    have p1 : W.cell? ⟨w.heap.size + 1 + 1 + 1, 1, none⟩ = some _ := (blk_cell dP.1 1).trans rfl
    have p2 : W.cell? ⟨w.heap.size + 1 + 1 + 1, 2, none⟩ = some _ := (blk_cell dP.1 2).trans rfl
    have y0 : W.cell? ⟨w.heap.size, 0, none⟩ = some _ := (blk_cell d0 0).trans rfl
    have y1 : W.cell? ⟨w.heap.size + 1, 0, none⟩ = some _ := (blk_cell d1 0).trans rfl
    have y2 : W.cell? ⟨w.heap.size + 1 + 1, 0, none⟩ = some _ := (blk_cell d2 0).trans rfl
    have z0 := blk_frozen d0 0
    have z1 := blk_frozen d1 0
    have z2 := blk_frozen d2 0
    have HI := Aside0.mk (And.intro f1 (And.intro d0 (And.intro d1 (And.intro d2 (And.intro dP (And.intro dB (And.intro dS dZ)))))))
    have HDf := Aside0.mk hDf
    clear f1 f2 f3 d0 d1 d2 d4 dP dB dS dZ hDf
    have hpu : parseU b = if st5.op then (none, 14, st5.ln) else (some st5.rs, 0, 0) := by
      unfold parseU
      rw [← HLS.out.1, HI.out.1]
      rfl
    have HPU := Aside0.mk hpu
    clear hpu
    cases hop : st5.op with
    | true =>
      rw [hop] at p1
      have hp3 := HPU.out
      rw [hop, if_pos rfl] at hp3
      have HP3 := Aside0.mk hp3
      clear hp3
      gi_wp2
      go_wp2
      go_region
      go_wp2
      rw [HP3.out]
      obtain ⟨f1, d0, d1, d2, dP, dB, dS, dZ⟩ := HI.out
      have hsz0 := HQ.out.2.2.2.2.2.2.2
      have hrs := HQ.out.2.2.2.2.2.2.1
      obtain ⟨j0, j1, j2, jf⟩ := three_cells (a' := .pointer none) (b' := .int .i64 14) (c' := .int .i64 st5.ln) d0 d1 d2
      obtain ⟨W6, hW6⟩ : ∃ W6, W6 = ((W.setCell ⟨w.heap.size, 0, none⟩ (.pointer none)).setCell ⟨w.heap.size + 1, 0, none⟩ (.int .i64 14)).setCell ⟨w.heap.size + 1 + 1, 0, none⟩ (.int .i64 st5.ln) := ⟨_, rfl⟩
      rw [← hW6] at j0 j1 j2 jf ⊢
      have hDl : Wr.heap.size < W.heap.size := (Array.getElem?_eq_some_iff.1 HDf.out).1
      have hD6 : W6.drew.heap[Wr.heap.size]? = some (.deferred (some [])) := (jf _ (by omega) (by omega) (by omega)).trans HDf.out
      have b6 : Go.RowKit.Below w.heap.size w W6 := by
        rw [hW6]
        exact ((dB.setCell (p := ⟨w.heap.size, 0, none⟩) (Nat.le_refl _) _).setCell (p := ⟨w.heap.size + 1, 0, none⟩) (by show w.heap.size ≤ w.heap.size + 1; omega) _).setCell (p := ⟨w.heap.size + 1 + 1, 0, none⟩) (by show w.heap.size ≤ w.heap.size + 1 + 1; omega) _
      refine ⟨by simp, .inl ⟨_, _, rfl, run_takeDeferred hD6, ?_⟩⟩
      refine ⟨_, results_three rfl Tryz.underlying35 _ _ ⟨w.heap.size, 0, none⟩ ⟨w.heap.size + 1, 0, none⟩ ⟨w.heap.size + 1 + 1, 0, none⟩ none 14 st5.ln rfl rfl rfl ?_ ?_ ?_, _, rfl, (below_drew1 b6).trans (below_put W6.drew Wr.heap.size w.heap.size _ (by omega)), rfl⟩
      · exact (blk_cell ((World.putObj_heap_other (by omega)).trans j0) 0).trans rfl
      · exact (blk_cell ((World.putObj_heap_other (by omega)).trans j1) 0).trans rfl
      · exact (blk_cell ((World.putObj_heap_other (by omega)).trans j2) 0).trans rfl
    | false =>
      rw [hop] at p1
      have hp3 := HPU.out
      rw [hop, if_neg (by decide)] at hp3
      have HP3 := Aside0.mk hp3
      clear hp3
      have al : ∀ (o : Obj) (p : Addr) (u : Value), W.cell? p = some u → (W.alloc o).cell? p = some u := fun o p u h => cell_grows9 h
      have ya0 := fun o => al o _ _ y0
      have ya1 := fun o => al o _ _ y1
      have ya2 := fun o => al o _ _ y2
      have zal : ∀ (o : Obj) (k : Nat) (cs : Array Value) (ty : TypeId), W.heap[k]? = some (.cells cs ty (0, 0)) → (W.alloc o).frozen? ⟨k, 0, none⟩ = false := fun o k cs ty h => blk_frozen ((Go.RowKit.Below.heap_alloc _ _ _ (blk_lt h)).trans h) 0
      have za0 := fun o => zal o _ _ _ HI.out.2.1
      have za1 := fun o => zal o _ _ _ HI.out.2.2.1
      have za2 := fun o => zal o _ _ _ HI.out.2.2.2.1
      clear al zal
      gi_wp2
      go_wp2
      rw [HP3.out]
      obtain ⟨f1, d0, d1, d2, dP, dB, dS, dZ⟩ := HI.out
      have hsz0 := HQ.out.2.2.2.2.2.2.2
      have hrs := HQ.out.2.2.2.2.2.2.1
      obtain ⟨W5, hW5⟩ : ∃ W5, W5 = W.alloc (.cells #[.slice A5 st5.rs.length c5] 76) := ⟨_, rfl⟩
      rw [← hW5]
      have b5 : Go.RowKit.Below W.heap.size W W5 := by rw [hW5]; exact below_alloc (Go.RowKit.Below.refl _ _) _
      have g5 : W5.heap[W.heap.size]? = some (.cells #[.slice A5 st5.rs.length c5] 76 (0, 0)) := by rw [hW5]; exact heap_alloc_new _ _
      obtain ⟨j0, j1, j2, jf⟩ := three_cells (a' := .pointer (some ⟨W.heap.size, 0, none⟩)) (b' := .int .i64 0) (c' := .int .i64 0) ((b5.block _ (blk_lt d0)).trans d0) ((b5.block _ (blk_lt d1)).trans d1) ((b5.block _ (blk_lt d2)).trans d2)
      obtain ⟨W6, hW6⟩ : ∃ W6, W6 = ((W5.setCell ⟨w.heap.size, 0, none⟩ (.pointer (some ⟨W.heap.size, 0, none⟩))).setCell ⟨w.heap.size + 1, 0, none⟩ (.int .i64 0)).setCell ⟨w.heap.size + 1 + 1, 0, none⟩ (.int .i64 0) := ⟨_, rfl⟩
      rw [← hW6] at j0 j1 j2 jf ⊢
      have hDl : Wr.heap.size < W.heap.size := (Array.getElem?_eq_some_iff.1 HDf.out).1
      have hD6 : W6.heap[Wr.heap.size]? = some (.deferred (some [])) := (jf _ (by omega) (by omega) (by omega)).trans ((b5.block _ hDl).trans HDf.out)
      have b6 : Go.RowKit.Below w.heap.size w W6 := by
        rw [hW6]
        exact (((dB.trans (b5.mono dB.size)).setCell (p := ⟨w.heap.size, 0, none⟩) (Nat.le_refl _) _).setCell (p := ⟨w.heap.size + 1, 0, none⟩) (by show w.heap.size ≤ w.heap.size + 1; omega) _).setCell (p := ⟨w.heap.size + 1 + 1, 0, none⟩) (by show w.heap.size ≤ w.heap.size + 1 + 1; omega) _
      refine ⟨by simp, .inl ⟨_, _, rfl, run_takeDeferred hD6, ?_⟩⟩
      refine ⟨_, results_three rfl Tryz.underlying35 _ _ ⟨w.heap.size, 0, none⟩ ⟨w.heap.size + 1, 0, none⟩ ⟨w.heap.size + 1 + 1, 0, none⟩ (some ⟨W.heap.size, 0, none⟩) 0 0 rfl rfl rfl ?_ ?_ ?_, _, rfl, b6.trans (below_put W6 Wr.heap.size w.heap.size _ (by omega)), W.heap.size, rfl, _, (World.putObj_heap_other (by omega)).trans ((jf _ (by omega) (by omega) (by omega)).trans g5), dB.size, ?_⟩
      · exact (blk_cell ((World.putObj_heap_other (by omega)).trans j0) 0).trans rfl
      · exact (blk_cell ((World.putObj_heap_other (by omega)).trans j1) 0).trans rfl
      · exact (blk_cell ((World.putObj_heap_other (by omega)).trans j2) 0).trans rfl
      · refine Kd.R_lower (Kd.R_mono (Kd.R_step (Kd.R_bound dP.2) (fun k hk hlt => ?_)) (fun k hk => by have := hk.2.2.1; omega)) (by omega)
        have hkD : k ≠ Wr.heap.size := fun e => by
          obtain ⟨q, _, cells, hc⟩ := hk.2.2.2
          rw [e, HDf.out] at hc
          cases hc
        have hkb := hk.2.1
        exact (World.putObj_heap_other hkD).trans ((jf _ (by omega) (by omega) (by omega)).trans (b5.block _ hlt))
  case stop =>
    rintro cc pre x r W hx2 ⟨rfl, t, h1, h2, h3, h4, h5, h6⟩ hDf
    have hsz0 := HQ.out.2.2.2.2.2.2.2
    have hrs := HQ.out.2.2.2.2.2.2.1
    have hpu : parseU b = (none, t.1, t.2.1) := by
      unfold parseU
      rw [← HLS.out.1, h2]
      dsimp only
      rw [if_pos h1]
    gi_wp2
    go_wp2
    rw [hpu]
    refine ⟨by simp, .inl ⟨_, _, rfl, run_takeDeferred hDf, ?_⟩⟩
    refine ⟨_, results_three rfl Tryz.underlying35 _ _ ⟨w.heap.size, 0, none⟩ ⟨w.heap.size + 1, 0, none⟩ ⟨w.heap.size + 1 + 1, 0, none⟩ none t.1 t.2.1 rfl rfl rfl ?_ ?_ ?_, _, rfl, h6.trans (below_put W Wr.heap.size w.heap.size _ (by omega)), rfl⟩
    · exact (blk_cell ((World.putObj_heap_other (by omega)).trans h3) 0).trans rfl
    · exact (blk_cell ((World.putObj_heap_other (by omega)).trans h4) 0).trans rfl
    · exact (blk_cell ((World.putObj_heap_other (by omega)).trans h5) 0).trans rfl
end Go.Proofs.YtebgebgkieglhaaGreatDoor.FieldW
end
section
/- span, unicode: the binary searches. -/
namespace Go.Proofs.YtebgebgkieglhaaGreatDoor.FieldW
open Go.RowKit Go.Shelf Go.Lib Go.Proofs Go.Proofs.YtebgebgkieglhaaGreatDoorW.PrintWords Go.Proofs.YtebgebgkieglhaaGreatDoorW.PrintLast Go.Proofs.YtebgebgkieglhaaGreatDoorW.PrintMore Go.Proofs.YtebgebgkieglhaaGreatDoor.PRef
set_option linter.unusedVariables false
set_option linter.unusedSimpArgs false

/-- How many are ahead of it. -/
def ahead {α : Type} (cf : α → Int) (l : List α) : Nat := (l.takeWhile (fun x => cf x < 0)).length
theorem ahead_of {α : Type} (cf : α → Int) : ∀ (l : List α) (i : Nat), i ≤ l.length → (∀ j (h : j < l.length), j < i → cf l[j] < 0) → (∀ j (h : j < l.length), i ≤ j → ¬ cf l[j] < 0) → ahead cf l = i
  | [], i, hi, _, _ => by simp at hi; subst hi; rfl
  | x :: l, 0, _, _, h2 => by
    have := h2 0 (by simp) (by omega)
    simp only [List.getElem_cons_zero] at this
    unfold ahead
    rw [List.takeWhile_cons, if_neg (by simpa using this)]; rfl
  | x :: l, i + 1, hi, h1, h2 => by
    have h0 := h1 0 (by simp) (by omega)
    simp only [List.getElem_cons_zero] at h0
    have := ahead_of cf l i (by simpa using hi) (fun j h hj => by have := h1 (j + 1) (by simpa using h) (by omega); simpa using this) (fun j h hj => by have := h2 (j + 1) (by simpa using h) (by omega); simpa using this)
    unfold ahead at this ⊢
    rw [List.takeWhile_cons, if_pos (by simpa using h0), List.length_cons, this]
/-- Is one there that compares as it? -/
def there {α : Type} (cf : α → Int) (l : List α) : Bool := match l[ahead cf l]? with
  | some x => cf x == 0
  | none => false
theorem ahead_le {α : Type} (cf : α → Int) (l : List α) : ahead cf l ≤ l.length := by
  unfold ahead; exact (List.takeWhile_sublist _).length_le
/-- Code points with a value. -/
structure USpan where
  first : Int
  last : Int
  val : ByteArray
def spanK : Kd USpan := Kd.iso (Kd.pair (Kd.int .i64) (Kd.pair (Kd.int .i64) Kd.string)) (fun s => (s.first, s.last, s.val))
def spanCells (s : USpan) : List Value := [.int .i64 s.first, .int .i64 s.last, .string s.val]
theorem spanK_sz : spanK.sz = 3 := rfl
theorem spanK_M {w : World} {base : Nat} {ok : Nat → Prop} {s : USpan} {c : List Value} : spanK.M w base ok s c ↔ c = spanCells s := by
  constructor
  · rintro ⟨c0, c1, rfl, h0, c2, c3, rfl, h2, h3⟩
    have e0 : c0 = [.int .i64 s.first] := h0
    have e2 : c2 = [.int .i64 s.last] := h2
    have e3 : c3 = [.string s.val] := h3
    subst e0 e2 e3
    rfl
  · rintro rfl
    exact ⟨[_], _, rfl, rfl, [_], _, rfl, rfl, rfl⟩
theorem spans_at {w : World} {base : Nat} {ok : Nat → Prop} {v : Value} {l : List USpan} (h : Kd.R spanK 96 w base ok v l) (j : Nat) (hj : j < l.length) :
    ∃ g cap cur, v = .slice (some ⟨g, 0, none⟩) l.length cap ∧ base ≤ g ∧ ok g ∧ w.heap[g]? = some (.cells cur 96 (0, 0)) ∧ (∀ i u, (spanCells l[j])[i]? = some u → w.cell? ⟨g, j * 3 + i, none⟩ = some u) := by
  obtain ⟨h0, inner, ⟨hlen, hown⟩, hl2, hreps⟩ := h
  rcases hown with ⟨rfl, hn⟩ | ⟨g, cap, cur, rfl, hg, hh, hcap, hmax, hsz, htake⟩
  · omega
  · have hc := spanK_M.1 (hreps j l[j] (List.getElem?_eq_getElem hj))
    refine ⟨g, cap, cur, rfl, hg, h0 g rfl, hh, fun i u hu => ?_⟩
    have hi : i < 3 := by
      have := (List.getElem?_eq_some_iff.1 hu).1
      simpa [spanCells] using this
    rw [← hc] at hu
    rw [blk_cell hh]
    rw [spanK_sz] at hu htake hsz
    have h1 : inner[j * 3 + i]? = some u := by
      rw [List.getElem?_take, if_pos hi, List.getElem?_drop] at hu
      exact hu
    rw [← htake, List.getElem?_take] at h1
    split at h1
    · rw [← Array.getElem?_toList]; exact h1
    · cases h1
/-- Spans rise, and don't meet. -/
def RisingS (l : List USpan) : Prop := l.Pairwise (fun a b => a.last < b.first) ∧ ∀ s ∈ l, s.first ≤ s.last
def RisingR (l : List URow) : Prop := l.Pairwise (fun a b => a.last < b.first) ∧ ∀ s ∈ l, s.first ≤ s.last
def cfS (c : Int) (s : USpan) : Int := if s.last < c then -1 else 1
def cfR (c : Int) (r : URow) : Int := if r.last < c then -1 else if r.first > c then 1 else 0
theorem cfS_neg (c : Int) (s : USpan) : cfS c s < 0 ↔ s.last < c := by unfold cfS; split <;> omega
theorem cfR_neg (c : Int) (s : URow) : cfR c s < 0 ↔ s.last < c := by unfold cfR; split <;> (try split) <;> omega
theorem mono_of {α : Type} (first last : α → Int) (l : List α) (c : Int) (hp : l.Pairwise (fun a b => last a < first b)) (hq : ∀ s ∈ l, first s ≤ last s) : ∀ i j (hi : i < l.length) (hj : j < l.length), i ≤ j → last l[j] < c → last l[i] < c := by
  intro i j hi hj hij h
  rcases Nat.eq_or_lt_of_le hij with rfl | hlt
  · exact h
  · have h1 := List.pairwise_iff_getElem.1 hp i j hi hj hlt
    have h2 := hq l[j] (List.getElem_mem hj)
    omega
theorem cell_up {W w2 : World} {a : Addr} {v : Value} (h : Go.RowKit.Below W.heap.size W w2) (hc : W.cell? a = some v) : w2.cell? a = some v := (h.cell (World.block_lt_of_cell? W a hc)).trans hc
set_option maxHeartbeats 4000000 in
set_option maxRecDepth 100000 in
theorem spanCmp (x : USpan) (c : Int) (w : World) : Calls Tryz.prog 91 #[.agg #[.int .i64 x.first, .int .i64 x.last, .string x.val], .int .i64 c] w fun e w' => e = .returned (.int .i64 (cfS c x)) ∧ Go.RowKit.Below w.heap.size w w' := by
  by_cases h : x.last < c
  · have hd : decide (x.last < c) = true := decide_eq_true h
    have hc : cfS c x = -1 := by unfold cfS; rw [if_pos h]
    have HC := Aside0.mk hc
    clear hc
    go_enter Tryz.func91, Tryz.ntmps91
    go_wp2
    go_ret
    exact ⟨by rw [HC.out]; rfl, below_alloc (Go.RowKit.Below.refl _ _) _⟩
  · have hd : decide (x.last < c) = false := decide_eq_false h
    have hc : cfS c x = 1 := by unfold cfS; rw [if_neg h]
    have HC := Aside0.mk hc
    clear hc
    go_enter Tryz.func91, Tryz.ntmps91
    go_wp2
    go_ret
    exact ⟨by rw [HC.out]; rfl, below_alloc (Go.RowKit.Below.refl _ _) _⟩
set_option maxHeartbeats 4000000 in
set_option maxRecDepth 100000 in
theorem bsSpan (v : Value) (base : Nat) (ok : Nat → Prop) (l : List USpan) (t : Int) (w : World) (hR : Kd.R spanK 96 w base ok v l) (hlen : l.length ≤ 1000000000) (hS : RisingS l) :
    Calls Tryz.prog 90 #[v, .int .i64 t, .func (.func 91) #[] #[]] w fun e w' => e = .returned (.tuple #[.int .i64 (ahead (cfS t) l), .bool (there (cfS t) l)]) ∧ Go.RowKit.Below w.heap.size w w' := by
  obtain ⟨A, c, rfl⟩ := Kd.R_slice hR
  have HC := Aside0.mk hR
  have hlz : (l.length : Int) ≤ 1000000000 := by omega
  have HM := Aside0.mk (mono_of (·.first) (·.last) l t hS.1 hS.2)
  clear hR hS
  go_enter Tryz.func90, Tryz.ntmps90
  go_wp2
  go_loopw [9, 10] (fun iv jv wr => ∃ i j : Nat, i ≤ j ∧ j ≤ l.length ∧ iv = .int .i64 i ∧ jv = .int .i64 j ∧ (∀ m (h : m < l.length), m < i → l[m].last < t) ∧ (∀ m (h : m < l.length), j ≤ m → ¬ l[m].last < t) ∧ Go.RowKit.Below w.heap.size w wr) (fun iv jv wr => (intOf jv).toNat - (intOf iv).toNat)
  case atStart =>
    exact ⟨0, l.length, by omega, by omega, rfl, rfl, fun m h hm => by omega, fun m h hm => by omega, Go.RowKit.Below.refl _ _⟩
  case round =>
    obtain ⟨i, j, hij, hjl, rfl, rfl, h1, h2, hg⟩ := hrel
    have H1 := Aside0.mk h1
    have H2 := Aside0.mk h2
    have HG := Aside0.mk hg
    clear h1 h2 hg
    by_cases hlt : i < j
    · obtain ⟨g, cap, cur, ev, -, -, -, hcells⟩ := spans_at HC.out ((i + j) / 2) (by omega)
      injection ev with ev1 ev2 ev3
      subst ev1
      obtain ⟨x, hx⟩ : ∃ x, x = l[(i + j) / 2]'(by omega) := ⟨_, rfl⟩
      rw [← hx] at hcells
      have k0 := cell_up HG.out (hcells 0 _ rfl)
      have k1 := cell_up HG.out (hcells 1 _ rfl)
      have k2 := cell_up HG.out (hcells 2 _ rfl)
      simp only [Nat.add_zero] at k0 k1 k2
      have HX := Aside0.mk hx
      clear hcells hx ev2 ev3
      by_cases hb : x.last < t
      · have hb1 : decide (cfS t x < 0) = true := decide_eq_true ((cfS_neg t x).2 hb)
        have HB := Aside0.mk hb
        clear hb
        go_wp2_with ((go_at_call 91; with_reducible refine (spanCmp x t _).mono ?_; rintro e w2 ⟨rfl, hg2⟩; have G2 := Aside0.mk (HG.out.trans (hg2.mono HG.out.size)); clear hg2))
        refine ⟨⟨(i + j) / 2 + 1, j, by omega, hjl, by go_num, rfl, fun m h hm => ?_, fun m h hm => by have := H2.out m h hm; omega, G2.out⟩, by simp only [intOf]; omega⟩
        exact HM.out m ((i + j) / 2) h (by omega) (by omega) (by rw [← HX.out]; have := HB.out; omega)
      · have hb1 : decide (cfS t x < 0) = false := decide_eq_false (fun e => hb ((cfS_neg t x).1 e))
        have HB := Aside0.mk hb
        clear hb
        go_wp2_with ((go_at_call 91; with_reducible refine (spanCmp x t _).mono ?_; rintro e w2 ⟨rfl, hg2⟩; have G2 := Aside0.mk (HG.out.trans (hg2.mono HG.out.size)); clear hg2))
        refine ⟨⟨i, (i + j) / 2, by omega, by omega, rfl, by go_num, fun m h hm => H1.out m h hm, fun m h hm hn => ?_, G2.out⟩, by simp only [intOf]; omega⟩
        exact absurd (HM.out ((i + j) / 2) m (by omega) h hm hn) (by rw [← HX.out]; have := HB.out; omega)
    · obtain rfl : i = j := by omega
      have ha : ahead (cfS t) l = i := ahead_of _ l i hjl (fun m h hm => (cfS_neg t _).2 (H1.out m h hm)) (fun m h hm e => H2.out m h hm ((cfS_neg t _).1 e))
      by_cases hl : i < l.length
      · obtain ⟨g, cap, cur, ev, -, -, -, hcells⟩ := spans_at HC.out i hl
        injection ev with ev1 ev2 ev3
        subst ev1
        obtain ⟨x, hx⟩ : ∃ x, x = l[i] := ⟨_, rfl⟩
        rw [← hx] at hcells
        have k0 := cell_up HG.out (hcells 0 _ rfl)
        have k1 := cell_up HG.out (hcells 1 _ rfl)
        have k2 := cell_up HG.out (hcells 2 _ rfl)
        simp only [Nat.add_zero] at k0 k1 k2
        have ht : there (cfS t) l = (cfS t x == 0) := by
          unfold there
          rw [ha, List.getElem?_eq_getElem hl, hx]
        have HT := Aside0.mk (And.intro ha ht)
        clear ha ht hcells hx ev2 ev3
        go_wp2_with ((go_at_call 91; with_reducible refine (spanCmp x t _).mono ?_; rintro e w2 ⟨rfl, hg2⟩; have G2 := Aside0.mk (HG.out.trans (hg2.mono HG.out.size)); clear hg2))
        go_ret2
        exact ⟨by rw [HT.out.1, HT.out.2]; rfl, G2.out⟩
      · have ht : there (cfS t) l = false := by
          unfold there
          rw [ha, List.getElem?_eq_none (by omega)]
        have HT := Aside0.mk (And.intro ha ht)
        clear ha ht
        go_wp2
        go_ret2
        exact ⟨by rw [HT.out.1, HT.out.2]; rfl, HG.out⟩
set_option maxHeartbeats 4000000 in
set_option maxRecDepth 100000 in
theorem rowCmp (x : URow) (A : Option Addr) (n q : Nat) (c : Int) (w : World) : Calls Tryz.prog 63 #[.agg #[.int .i64 x.first, .int .i64 x.last, .string x.gc, .int .i64 x.ccc, .string x.bidi, .slice A n q], .int .i64 c] w fun e w' => e = .returned (.int .i64 (cfR c x)) ∧ Go.RowKit.Below w.heap.size w w' := by
  by_cases h : x.last < c
  · have hd : decide (x.last < c) = true := decide_eq_true h
    have hc : cfR c x = -1 := by unfold cfR; rw [if_pos h]
    have HC := Aside0.mk hc
    clear hc
    go_enter Tryz.func63, Tryz.ntmps63
    go_wp2
    go_ret
    exact ⟨by rw [HC.out]; rfl, below_alloc (Go.RowKit.Below.refl _ _) _⟩
  · have hd : decide (x.last < c) = false := decide_eq_false h
    by_cases h2 : x.first > c
    · have hd2 : decide (c < x.first) = true := decide_eq_true h2
      have hc : cfR c x = 1 := by unfold cfR; rw [if_neg h, if_pos h2]
      have HC := Aside0.mk hc
      clear hc
      go_enter Tryz.func63, Tryz.ntmps63
      go_wp2
      go_ret
      exact ⟨by rw [HC.out]; rfl, below_alloc (Go.RowKit.Below.refl _ _) _⟩
    · have hd2 : decide (c < x.first) = false := decide_eq_false h2
      have hc : cfR c x = 0 := by unfold cfR; rw [if_neg h, if_neg h2]
      have HC := Aside0.mk hc
      clear hc
      go_enter Tryz.func63, Tryz.ntmps63
      go_wp2
      go_ret
      exact ⟨by rw [HC.out]; rfl, below_alloc (Go.RowKit.Below.refl _ _) _⟩
set_option maxHeartbeats 4000000 in
set_option maxRecDepth 100000 in
theorem bsRow (v : Value) (base : Nat) (ok : Nat → Prop) (l : List URow) (t : Int) (w : World) (hR : Kd.R rowK 40 w base ok v l) (hlen : l.length ≤ 1000000000) (hS : RisingR l) :
    Calls Tryz.prog 62 #[v, .int .i64 t, .func (.func 63) #[] #[]] w fun e w' => e = .returned (.tuple #[.int .i64 (ahead (cfR t) l), .bool (there (cfR t) l)]) ∧ Go.RowKit.Below w.heap.size w w' := by
  obtain ⟨A, c, rfl⟩ := Kd.R_slice hR
  have HC := Aside0.mk hR
  have hlz : (l.length : Int) ≤ 1000000000 := by omega
  have HM := Aside0.mk (mono_of (·.first) (·.last) l t hS.1 hS.2)
  clear hR hS
  go_enter Tryz.func62, Tryz.ntmps62
  go_wp2
  go_loopw [9, 10] (fun iv jv wr => ∃ i j : Nat, i ≤ j ∧ j ≤ l.length ∧ iv = .int .i64 i ∧ jv = .int .i64 j ∧ (∀ m (h : m < l.length), m < i → l[m].last < t) ∧ (∀ m (h : m < l.length), j ≤ m → ¬ l[m].last < t) ∧ Go.RowKit.Below w.heap.size w wr) (fun iv jv wr => (intOf jv).toNat - (intOf iv).toNat)
  case atStart =>
    exact ⟨0, l.length, by omega, by omega, rfl, rfl, fun m h hm => by omega, fun m h hm => by omega, Go.RowKit.Below.refl _ _⟩
  case round =>
    obtain ⟨i, j, hij, hjl, rfl, rfl, h1, h2, hg⟩ := hrel
    have H1 := Aside0.mk h1
    have H2 := Aside0.mk h2
    have HG := Aside0.mk hg
    clear h1 h2 hg
    by_cases hlt : i < j
    · obtain ⟨g, cap, cur, vd, ev, -, -, -, hcells, hvd⟩ := rows_at HC.out ((i + j) / 2) (by omega)
      injection ev with ev1 ev2 ev3
      subst ev1
      obtain ⟨x, hx⟩ : ∃ x, x = l[(i + j) / 2]'(by omega) := ⟨_, rfl⟩
      rw [← hx] at hcells hvd
      obtain ⟨Ad, cd, rfl⟩ := Kd.R_slice hvd
      clear hvd
      have k0 := cell_up HG.out (hcells 0 _ rfl)
      have k1 := cell_up HG.out (hcells 1 _ rfl)
      have k2 := cell_up HG.out (hcells 2 _ rfl)
      have k3 := cell_up HG.out (hcells 3 _ rfl)
      have k4 := cell_up HG.out (hcells 4 _ rfl)
      have k5 := cell_up HG.out (hcells 5 _ rfl)
      simp only [Nat.add_zero, Nat.mul_comm 6] at k0 k1 k2 k3 k4 k5
      have HX := Aside0.mk hx
      clear hcells hx ev2 ev3
      by_cases hb : x.last < t
      · have hb1 : decide (cfR t x < 0) = true := decide_eq_true ((cfR_neg t x).2 hb)
        have HB := Aside0.mk hb
        clear hb
        go_wp2_with ((go_at_call 63; with_reducible refine (rowCmp x _ _ _ t _).mono ?_; rintro e w2 ⟨rfl, hg2⟩; have G2 := Aside0.mk (HG.out.trans (hg2.mono HG.out.size)); clear hg2))
        refine ⟨⟨(i + j) / 2 + 1, j, by omega, hjl, by go_num, rfl, fun m h hm => ?_, fun m h hm => by have := H2.out m h hm; omega, G2.out⟩, by simp only [intOf]; omega⟩
        exact HM.out m ((i + j) / 2) h (by omega) (by omega) (by rw [← HX.out]; have := HB.out; omega)
      · have hb1 : decide (cfR t x < 0) = false := decide_eq_false (fun e => hb ((cfR_neg t x).1 e))
        have HB := Aside0.mk hb
        clear hb
        go_wp2_with ((go_at_call 63; with_reducible refine (rowCmp x _ _ _ t _).mono ?_; rintro e w2 ⟨rfl, hg2⟩; have G2 := Aside0.mk (HG.out.trans (hg2.mono HG.out.size)); clear hg2))
        refine ⟨⟨i, (i + j) / 2, by omega, by omega, rfl, by go_num, fun m h hm => H1.out m h hm, fun m h hm hn => ?_, G2.out⟩, by simp only [intOf]; omega⟩
        exact absurd (HM.out ((i + j) / 2) m (by omega) h hm hn) (by rw [← HX.out]; have := HB.out; omega)
    · obtain rfl : i = j := by omega
      have ha : ahead (cfR t) l = i := ahead_of _ l i hjl (fun m h hm => (cfR_neg t _).2 (H1.out m h hm)) (fun m h hm e => H2.out m h hm ((cfR_neg t _).1 e))
      by_cases hl : i < l.length
      · obtain ⟨g, cap, cur, vd, ev, -, -, -, hcells, hvd⟩ := rows_at HC.out i hl
        injection ev with ev1 ev2 ev3
        subst ev1
        obtain ⟨x, hx⟩ : ∃ x, x = l[i] := ⟨_, rfl⟩
        rw [← hx] at hcells hvd
        obtain ⟨Ad, cd, rfl⟩ := Kd.R_slice hvd
        clear hvd
        have k0 := cell_up HG.out (hcells 0 _ rfl)
        have k1 := cell_up HG.out (hcells 1 _ rfl)
        have k2 := cell_up HG.out (hcells 2 _ rfl)
        have k3 := cell_up HG.out (hcells 3 _ rfl)
        have k4 := cell_up HG.out (hcells 4 _ rfl)
        have k5 := cell_up HG.out (hcells 5 _ rfl)
        simp only [Nat.add_zero, Nat.mul_comm 6] at k0 k1 k2 k3 k4 k5
        have ht : there (cfR t) l = (cfR t x == 0) := by
          unfold there
          rw [ha, List.getElem?_eq_getElem hl, hx]
        have HT := Aside0.mk (And.intro ha ht)
        clear ha ht hcells hx ev2 ev3
        go_wp2_with ((go_at_call 63; with_reducible refine (rowCmp x _ _ _ t _).mono ?_; rintro e w2 ⟨rfl, hg2⟩; have G2 := Aside0.mk (HG.out.trans (hg2.mono HG.out.size)); clear hg2))
        go_ret2
        exact ⟨by rw [HT.out.1, HT.out.2]; rfl, G2.out⟩
      · have ht : there (cfR t) l = false := by
          unfold there
          rw [ha, List.getElem?_eq_none (by omega)]
        have HT := Aside0.mk (And.intro ha ht)
        clear ha ht
        go_wp2
        go_ret2
        exact ⟨by rw [HT.out.1, HT.out.2]; rfl, HG.out⟩
end Go.Proofs.YtebgebgkieglhaaGreatDoor.FieldW
end
section
/- span: slices.Insert of one span. -/
namespace Go.Proofs.YtebgebgkieglhaaGreatDoor.FieldW
open Go.RowKit Go.Shelf Go.Lib Go.Proofs Go.Proofs.YtebgebgkieglhaaGreatDoorW.PrintWords Go.Proofs.YtebgebgkieglhaaGreatDoorW.PrintLast Go.Proofs.YtebgebgkieglhaaGreatDoorW.PrintMore Go.Proofs.YtebgebgkieglhaaGreatDoor.PRef
set_option linter.unusedVariables false
set_option linter.unusedSimpArgs false

@[simp] theorem spanCells_len (s : USpan) : (spanCells s).length = 3 := rfl
theorem spanK_mkM (w : World) (base : Nat) (ok : Nat → Prop) (s : USpan) : spanK.M w base ok s (spanCells s) := spanK_M.2 rfl
theorem spanK_openM {w : World} {base : Nat} {ok : Nat → Prop} {s : USpan} {c : List Value} (h : spanK.M w base ok s c) : c = spanCells s := spanK_M.1 h
theorem spanK_open {w : World} {s : USpan} {c : List Value} (h : spanK.K w s c) : c = spanCells s := by
  obtain ⟨c0, c1, rfl, h0, c2, c3, rfl, h2, h3⟩ := h
  have e0 : c0 = [.int .i64 s.first] := h0
  have e2 : c2 = [.int .i64 s.last] := h2
  have e3 : c3 = [.string s.val] := h3
  subst e0 e2 e3
  rfl
theorem spanK_mk (w : World) (s : USpan) : spanK.K w s (spanCells s) := ⟨[_], _, rfl, rfl, [_], _, rfl, rfl, rfl⟩
/-- Edges' cells. -/
def scells (l : List USpan) : List Value := l.flatMap fun e => spanCells e
theorem info96 : (Tryz.prog.info? 96).map (fun i => (i.zero, i.size, i.bytes)) = some (some (.agg #[.int .i64 0, .int .i64 0, .string ⟨#[]⟩]), 3, 32) := by kernel_rfl

set_option maxHeartbeats 4000000 in
set_option maxRecDepth 100000 in
/-- At the end. -/
theorem insert_end (v : Value) (l : List USpan) (y : USpan) (vb : Nat) (base : Nat) (w : World) (hown : Kd.R spanK 96 w base (fun _ => True) v l) (hb : base ≤ w.heap.size) (hn : (l.length + 1) * 32 ≤ 140737488355328)
    (hbox : Kd.C spanK w (some ⟨vb, 0, none⟩) 1 [y]) :
    Calls Tryz.prog 102 #[v, .int .i64 l.length, .slice (some ⟨vb, 0, none⟩) 1 1] w fun e w' => ∃ v', e = .returned v' ∧ Kd.R spanK 96 w' base (fun _ => True) v' (l ++ [y]) ∧ w.grownBy w' v.ownBlock ∧ (v'.ownBlock = v.ownBlock ∨ ∃ b, v'.ownBlock = some b ∧ w.heap.size ≤ b) := by
  obtain ⟨A, c, rfl⟩ := Kd.R_slice hown
  have HO := Aside0.mk hown
  have HX := Aside0.mk hbox
  have hc : l.length ≤ c := by obtain ⟨A', c', he, hl, _⟩ := Kd.R_reads hown; injection he with _ _ h3; omega
  clear hown hbox
  have hKM : ∀ (x : USpan) cs, spanK.K w x cs → spanK.M w base (fun _ => True ∧ False) x cs := fun x cs h => by obtain rfl := spanK_open h; exact spanK_mkM _ _ _ _
  have HK := Aside0.mk hKM
  clear hKM
  by_cases hcl : c = l.length
  · subst hcl
    go_enter Tryz.func102, Tryz.ntmps102
    go_wp2_with ((with_reducible refine gate_dst (N := 25) rfl ?_); refine Kd.R_append_rows spanK (Rr := spanK.K w) (w0 := w) base rfl (.tmp 23) (.tmp 24) 125 96 (.agg #[.int .i64 0, .int .i64 0, .string ⟨#[]⟩]) 32 rfl Tryz.underlying125 info96 rfl (show 0 < 3 by decide) (by decide) _ l [y] (some ⟨vb, 0, none⟩) 1 1 (fun _ => True) (fun _ => True ∧ False) rfl rfl HO.out HX.out HK.out (fun _ h => h.2.elim) (fun _ _ => trivial) (Below.refl _ _) hb hn ?_; intro v4 w4 ho4 hb4 hg4 hn4; have O4 := Aside0.mk (And.intro ho4 (And.intro hg4 hn4)); clear ho4 hb4 hg4 hn4)
    go_ret
    exact ⟨v4, rfl, O4.out.1, O4.out.2.1, O4.out.2.2⟩
  · go_enter Tryz.func102, Tryz.ntmps102
    go_wp2_with ((with_reducible refine gate_dst (N := 25) rfl ?_); refine Kd.R_append_rows spanK (Rr := spanK.K w) (w0 := w) base rfl (.tmp 23) (.tmp 24) 125 96 (.agg #[.int .i64 0, .int .i64 0, .string ⟨#[]⟩]) 32 rfl Tryz.underlying125 info96 rfl (show 0 < 3 by decide) (by decide) _ l [y] (some ⟨vb, 0, none⟩) 1 1 (fun _ => True) (fun _ => True ∧ False) rfl rfl HO.out HX.out HK.out (fun _ h => h.2.elim) (fun _ _ => trivial) (Below.refl _ _) hb hn ?_; intro v4 w4 ho4 hb4 hg4 hn4; have O4 := Aside0.mk (And.intro ho4 (And.intro hg4 hn4)); clear ho4 hb4 hg4 hn4)
    go_ret
    exact ⟨v4, rfl, O4.out.1, O4.out.2.1, O4.out.2.2⟩

/-- copy, at elements of k cells. -/
theorem run_copy_k {P : Program} (k : Nat) (w : World) (dT sT ty elem : TypeId) (b o dLen dCap : Nat) (a : Addr) (sLen sCap : Nat) (cs : List Value)
    (hu : P.underlying dT = some (.slice elem)) (hs : (P.info? elem).map (·.size) = some k) (hn : cs.length = Nat.min sLen dLen * k)
    (hsrc : ∀ j v, cs[j]? = some v → w.cell? (a.add j) = some v) (hc : ∀ j, j < cs.length → (w.cell? ⟨b, o + j, none⟩).isSome = true) (hf : ∀ j, j < cs.length → w.frozen? ⟨b, o + j, none⟩ = false) (h1 : ∀ v ∈ cs, v.oneCell' = true) :
    (Builtin.copy_ #[dT, sT] ty #[.slice (some ⟨b, o, none⟩) dLen dCap, .slice (some a) sLen sCap]).run P w = .ok (goInt (Nat.min sLen dLen)) (w.setCells b o cs) := by
  have hl := run_loadCells_list (P := P) w a cs hsrc
  have hst := run_storeCells_cells (P := P) b o cs 0 w (by simpa using hc) (by simpa using hf) h1
  cases hq : P.info? elem with
  | none => simp [hq] at hs
  | some i =>
    have hi : i.size = k := by simpa [hq] using hs
    simp [Builtin.copy_, run_underlying hu, Builtin.lenOf, Builtin.firstCells, sizeOf, typeInfo, hq, hi, ← hn, hl, hst]

set_option maxHeartbeats 4000000 in
set_option maxRecDepth 100000 in
/-- In the midst, where there is room. -/
theorem insert_shift (g n c i vb : Nat) (cs vs : List Value) (w : World) (hi : i < n) (hroom : n + 1 ≤ c) (hc63 : c ≤ 9223372036854775807) (hvb : vb ≠ g)
    (hcl : cs.length = n * 3) (hvl : vs.length = 3)
    (hcs : ∀ j v, cs[j]? = some v → w.cell? ⟨g, j, none⟩ = some v) (hsp : ∀ j, j < (n + 1) * 3 → (w.cell? ⟨g, j, none⟩).isSome = true) (hfz : ∀ j, w.frozen? ⟨g, j, none⟩ = false)
    (hvs : ∀ j v, vs[j]? = some v → w.cell? ⟨vb, j, none⟩ = some v) (h1c : ∀ v ∈ cs, v.oneCell' = true) (h1v : ∀ v ∈ vs, v.oneCell' = true)
    (tA tB : TypeId) (kA kB : Nat) (hsa : w.shape? vb = some (tA, kA)) (hsb : w.shape? g = some (tB, kB)) (hkB : kB ≠ 0) (hfa : w.frozen? ⟨vb, 0, none⟩ = false) (hfe : w.frozen? ⟨vb, kA, none⟩ = false) :
    Calls Tryz.prog 102 #[.slice (some ⟨g, 0, none⟩) n c, .int .i64 i, .slice (some ⟨vb, 0, none⟩) 1 1] w fun e w' =>
      e = .returned (.slice (some ⟨g, 0, none⟩) (n + 1) c) ∧ w' = (w.drew.setCells g ((i + 1) * 3) (cs.drop (i * 3))).setCells g (i * 3) vs := by
  have hz2 : ¬ ((i : Int) = (n : Int)) := by omega
  have hdl : (cs.drop (i * 3)).length = (n - i) * 3 := by rw [List.length_drop, hcl]; omega
  have hov : ∀ lb cb, (callFunc 121 #[.slice (some ⟨vb, 0, none⟩) 1 1, .slice (some ⟨g, (i + 1) * 3, none⟩) lb cb]).run Tryz.prog w = .ok (.value (.bool false)) w := fun lb cb => by
    rw [run_callFunc_extern Tryz.func121 (by kernel_rfl) (by kernel_rfl) (by kernel_rfl) (e := Extern.SlicesOverlaps.overlaps #[125, 125] #[4]) (by kernel_rfl),
      Lib.run_overlaps_apart w 125 4 96 Tryz.underlying125 3 (fun _ => by kernel_rfl) ⟨vb, 0, none⟩ ⟨g, (i + 1) * 3, none⟩ 1 1 lb cb hvb tA tB kA kB hsa hsb hkB hfa hfe]
    rfl
  have mixed : Tryz.prog.follows Departure.mixedOrders = true := by kernel_rfl
  have hsz : (Tryz.prog.info? 96).map (·.size) = some 3 := by kernel_rfl
  have hw1 : IntKind.i64.wrap ((i : Int) + 1) = (i : Int) + 1 := by rw [IntKind.wrap_i64]; omega
  have hw2 : IntKind.i64.wrap ((n : Int) + 1) = (n : Int) + 1 := by rw [IntKind.wrap_i64]; omega
  have htn : ((i : Int) + 1).toNat = i + 1 := by omega
  have htn2 : ((n : Int) + 1).toNat = n + 1 := by omega
  have hin : i ≤ n := by omega
  have hb1 : (0 : Int) ≤ (i : Int) + 1 := by omega
  have hb2 : ¬ (c = i + 1) := by omega
  have hb3 : (i : Int) ≤ (n : Int) + 1 := by omega
  have hb4 : ¬ (c = i) := by omega
  have hcp1 : ∀ ty dc sc, (Builtin.copy_ #[125, 125] ty #[.slice (some ⟨g, (i + 1) * 3, none⟩) (n - i) dc, .slice (some ⟨g, i * 3, none⟩) (n + 1 - i) sc]).run Tryz.prog w.drew = .ok (goInt (Nat.min (n + 1 - i) (n - i))) (w.drew.setCells g ((i + 1) * 3) (cs.drop (i * 3))) := fun ty dc sc =>
    run_copy_k 3 w.drew _ _ ty 96 g ((i + 1) * 3) (n - i) dc ⟨g, i * 3, none⟩ (n + 1 - i) sc (cs.drop (i * 3)) Tryz.underlying125 hsz (by rw [hdl]; simp only [Nat.min_def]; split <;> omega)
      (fun j v hj => by rw [Addr.add_lit]; exact hcs (i * 3 + j) v (by rwa [List.getElem?_drop] at hj))
      (fun j hj => hsp _ (by omega)) (fun j hj => hfz _) (fun v hv => h1c v (List.mem_of_mem_drop hv))
  obtain ⟨W1, hW1⟩ : ∃ W1, W1 = w.drew.setCells g ((i + 1) * 3) (cs.drop (i * 3)) := ⟨_, rfl⟩
  have hsp1 : ∀ k, k < (n + 1) * 3 → (W1.cell? ⟨g, k, none⟩).isSome = true := fun k hk => by
    rw [hW1]
    exact isSome_setCells g (cs.drop (i * 3)) ((i + 1) * 3) w.drew (fun j hj => hsp _ (by omega)) _ (hsp k hk)
  have hcp2 : ∀ (W : World), (∀ x, W.cell? x = W1.cell? x) → (∀ x, W.frozen? x = W1.frozen? x) → ∀ ty dc, (Builtin.copy_ #[125, 125] ty #[.slice (some ⟨g, i * 3, none⟩) (n + 1 - i) dc, .slice (some ⟨vb, 0, none⟩) 1 1]).run Tryz.prog W = .ok (goInt (Nat.min 1 (n + 1 - i))) (W.setCells g (i * 3) vs) := fun W hWc hWf ty dc =>
    run_copy_k 3 W _ _ ty 96 g (i * 3) (n + 1 - i) dc ⟨vb, 0, none⟩ 1 1 vs Tryz.underlying125 hsz (by rw [hvl]; simp only [Nat.min_def]; split <;> omega)
      (fun j v hj => by
        rw [Addr.add_lit, hWc, hW1, World.cell?_setCells_out g _ _ _ _ (fun h _ => absurd h hvb), Nat.zero_add]
        exact hvs j v hj)
      (fun j hj => by rw [hWc]; exact hsp1 _ (by omega)) (fun j hj => by rw [hWf, hW1, World.frozen?_setCells]; exact hfz _) h1v
  rw [← hW1] at hcp1
  go_enter Tryz.func102, Tryz.ntmps102
  go_wp2_with (simp only [hov])
  go_region_law_o (refine step_copy_runI rfl _ _ 125 125 rfl _ _ (by simp [Act.eval, Act.put]) (by simp [Act.eval, Act.put]) (hcp1 _ _ _) ?_)
  go_wp2_with (at_builtin; refine wpList_copy_runI _ rfl _ _ 125 125 rfl _ _ rfl rfl (hcp2 _ (fun _ => rfl) (fun _ => rfl) _ _) ?_)
  go_ret
  first | exact ⟨rfl, rfl⟩ | exact ⟨rfl, by rw [hW1]⟩

/-- The cells of a new row: what stood ahead, then zeros. -/
def newRow (cs : List Value) (m z : Nat) : Array Value := cs.toArray ++ Builtin.zeroCells (Value.agg #[.int .i64 0, .int .i64 0, .string ⟨#[]⟩]).cells m ++ Builtin.zeroCells (Value.agg #[.int .i64 0, .int .i64 0, .string ⟨#[]⟩]).cells z
set_option maxHeartbeats 4000000 in
set_option maxRecDepth 100000 in
/-- In the midst, where there is no room: a new row. -/
theorem insert_grow (g n c i vb : Nat) (cs vs : List Value) (w : World) (hi : i < n) (hnc : n ≤ c) (hroom : c < n + 1) (hbig : (n + 1) * 32 ≤ 140737488355328)
    (hcl : cs.length = n * 3) (hvl : vs.length = 3)
    (hcs : ∀ j v, cs[j]? = some v → w.cell? ⟨g, j, none⟩ = some v)
    (hvs : ∀ j v, vs[j]? = some v → w.cell? ⟨vb, j, none⟩ = some v) (h1c : ∀ v ∈ cs, v.oneCell' = true) (h1v : ∀ v ∈ vs, v.oneCell' = true) :
    Calls Tryz.prog 102 #[.slice (some ⟨g, 0, none⟩) n c, .int .i64 i, .slice (some ⟨vb, 0, none⟩) 1 1] w fun e w' =>
      e = .returned (.slice (some ⟨w.heap.size, 0, none⟩) (n + 1) (grownCap w (n + 1) c 96)) ∧
      w' = (((w.alloc (.cells (newRow (cs.take (i * 3)) (n + 1 - i) (grownCap w (n + 1) c 96 - (n + 1))) 96)).drew.setCells w.heap.size (i * 3) vs).drew).setCells w.heap.size ((i + 1) * 3) (cs.drop (i * 3)) := by
  have mixed : Tryz.prog.follows Departure.mixedOrders = true := by kernel_rfl
  obtain ⟨i0, hi0, hz0, hzs, hzb⟩ := info_parts info96
  have hz2 : ¬ ((i : Int) = (n : Int)) := by omega
  have hz3 : (c : Int) < (n : Int) + 1 := by omega
  have hsz : (Tryz.prog.info? 96).map (·.size) = some 3 := by kernel_rfl
  have hbw : g < w.heap.size := block_lt_of_cell (hcs 0 _ (List.getElem?_eq_getElem (by omega)))
  have hvw : vb < w.heap.size := block_lt_of_cell (hvs 0 _ (List.getElem?_eq_getElem (by omega)))
  have hkk : (n : Int) + 1 - (i : Int) = ((n + 1 - i : Nat) : Int) := by omega
  have hik : i + (n + 1 - i) = n + 1 := by omega
  have hold : (Builtin.firstCells i0.size i (.slice (some ⟨g, 0, none⟩) i c)).run Tryz.prog w.drew = .ok (cs.take (i * 3)).toArray w.drew := by
    rw [hzs]
    exact run_firstCells_some w.drew 3 i ⟨g, 0, none⟩ i c (cs.take (i * 3)) (by rw [List.length_take]; omega) (fun j v hj => by
      rw [Addr.add_lit, Nat.zero_add]
      rw [List.getElem?_take] at hj
      split at hj
      · exact hcs j v hj
      · cases hj)
  have hrz : ∀ ty, (Builtin.append_ #[125, 3] ty #[.slice (some ⟨g, 0, none⟩) i c, .int .i64 ((n : Int) + 1 - (i : Int))]).run Tryz.prog w =
      .ok (.slice (some ⟨w.heap.size, 0, none⟩) (n + 1) (grownCap w (n + 1) c 96)) (w.drew.alloc (.cells (newRow (cs.take (i * 3)) (n + 1 - i) (grownCap w (n + 1) c 96 - (n + 1))) 96)) := fun ty => by
    have h := Lib.run_append_grow_zeros w 125 3 ty 96 i0 _ .i64 .i64 Tryz.underlying125 Tryz.underlying3 hi0 hz0 (some ⟨g, 0, none⟩) i c (cs.take (i * 3)) hold (n + 1 - i) (by omega) (by omega) (by omega) (by omega) (by rw [hzb]; omega) (by rw [hzb, hik]; exact growslice_fits hroom hbig)
    rw [hik] at h
    rw [hkk]
    exact h
  obtain ⟨G, hG⟩ : ∃ G, G = grownCap w (n + 1) c 96 := ⟨_, rfl⟩
  obtain ⟨ROW, hROW⟩ : ∃ ROW : Array Value, ROW = newRow (cs.take (i * 3)) (n + 1 - i) (G - (n + 1)) := ⟨_, rfl⟩
  rw [← hG] at hrz ⊢
  rw [← hROW] at hrz ⊢
  have hRl : (n + 1) * 3 ≤ ROW.size := by
    rw [hROW]
    simp [newRow, Builtin.zeroCells, Value.cells]
    omega
  obtain ⟨W1, hW1⟩ : ∃ W1, W1 = w.drew.alloc (.cells ROW 96) := ⟨_, rfl⟩
  rw [← hW1] at hrz
  have hN : ∀ j, j < (n + 1) * 3 → (W1.cell? ⟨w.heap.size, j, none⟩).isSome = true := fun j hj => by
    rw [hW1, World.cell?_alloc_at (w := w.drew) ROW _ w.heap.size j rfl, Array.getElem?_eq_getElem (by omega)]; rfl
  have hNf : ∀ j, W1.frozen? ⟨w.heap.size, j, none⟩ = false := fun j => by rw [hW1]; exact World.frozen?_alloc_at (w := w.drew) ROW _ w.heap.size j rfl
  have hOb : ∀ j v, w.cell? ⟨g, j, none⟩ = some v → W1.cell? ⟨g, j, none⟩ = some v := fun j v h => by rw [hW1, World.cell?_alloc_past (w := w.drew) _ g j hbw]; exact h
  have hOv : ∀ j v, w.cell? ⟨vb, j, none⟩ = some v → W1.cell? ⟨vb, j, none⟩ = some v := fun j v h => by rw [hW1, World.cell?_alloc_past (w := w.drew) _ vb j hvw]; exact h
  have hcpA : ∀ (W : World), (∀ x, W.cell? x = W1.cell? x) → (∀ x, W.frozen? x = W1.frozen? x) → ∀ ty dc, (Builtin.copy_ #[125, 125] ty #[.slice (some ⟨w.heap.size, i * 3, none⟩) (n + 1 - i) dc, .slice (some ⟨vb, 0, none⟩) 1 1]).run Tryz.prog W = .ok (goInt (Nat.min 1 (n + 1 - i))) (W.setCells w.heap.size (i * 3) vs) := fun W hWc hWf ty dc =>
    run_copy_k 3 W _ _ ty 96 w.heap.size (i * 3) (n + 1 - i) dc ⟨vb, 0, none⟩ 1 1 vs Tryz.underlying125 hsz (by rw [hvl]; simp only [Nat.min_def]; split <;> omega)
      (fun j v hj => by rw [Addr.add_lit, hWc, Nat.zero_add]; exact hOv _ v (hvs j v hj))
      (fun j hj => by rw [hWc]; exact hN _ (by omega)) (fun j hj => by rw [hWf]; exact hNf _) h1v
  have hGn : n + 1 ≤ G := by rw [hG]; exact grownCap_ge w _ _ _
  have hG63 : G ≤ 9223372036854775807 := by
    have := grownCap_le_maxLen w (n + 1) c 96 (by unfold maxLen; omega)
    rw [← hG] at this
    unfold maxLen at this
    omega
  have hGi : ¬ (G = i) := by omega
  have hGim : ¬ (G = i + 1) := by omega
  have hci : ¬ (c = i) := by omega
  have hbN : g ≠ w.heap.size := by omega
  have hdl : (cs.drop (i * 3)).length = (n - i) * 3 := by rw [List.length_drop, hcl]; omega
  have hcpB : ∀ (W : World), (∀ x, W.cell? x = (W1.setCells w.heap.size (i * 3) vs).cell? x) → (∀ x, W.frozen? x = (W1.setCells w.heap.size (i * 3) vs).frozen? x) → ∀ ty dc sc, (Builtin.copy_ #[125, 125] ty #[.slice (some ⟨w.heap.size, (i + 1) * 3, none⟩) (n - i) dc, .slice (some ⟨g, i * 3, none⟩) (n - i) sc]).run Tryz.prog W = .ok (goInt (Nat.min (n - i) (n - i))) (W.setCells w.heap.size ((i + 1) * 3) (cs.drop (i * 3))) := fun W hWc hWf ty dc sc =>
    run_copy_k 3 W _ _ ty 96 w.heap.size ((i + 1) * 3) (n - i) dc ⟨g, i * 3, none⟩ (n - i) sc (cs.drop (i * 3)) Tryz.underlying125 hsz (by rw [hdl]; simp only [Nat.min_def]; split <;> omega)
      (fun j v hj => by
        rw [Addr.add_lit, hWc, World.cell?_setCells_out _ _ _ _ _ (fun h _ => absurd h hbN)]
        exact hOb _ v (hcs (i * 3 + j) v (by rwa [List.getElem?_drop] at hj)))
      (fun j hj => by rw [hWc]; exact isSome_setCells w.heap.size vs (i * 3) W1 (fun t ht => hN _ (by omega)) _ (hN _ (by omega)))
      (fun j hj => by rw [hWf, World.frozen?_setCells]; exact hNf _) (fun v hv => h1c v (List.mem_of_mem_drop hv))
  subst hW1
  have hE1 : ∀ x, ((w.alloc (.cells ROW 96)).drew).cell? x = (w.drew.alloc (.cells ROW 96)).cell? x := fun x => rfl
  have hE2 : ∀ x, ((w.alloc (.cells ROW 96)).drew).frozen? x = (w.drew.alloc (.cells ROW 96)).frozen? x := fun x => rfl
  have hF1 : ∀ x, (((w.alloc (.cells ROW 96)).drew.setCells w.heap.size (i * 3) vs).drew).cell? x = ((w.drew.alloc (.cells ROW 96)).setCells w.heap.size (i * 3) vs).cell? x := fun x => rfl
  have hF2 : ∀ x, (((w.alloc (.cells ROW 96)).drew.setCells w.heap.size (i * 3) vs).drew).frozen? x = ((w.drew.alloc (.cells ROW 96)).setCells w.heap.size (i * 3) vs).frozen? x := fun x => rfl
  have hw1 : IntKind.i64.wrap ((i : Int) + 1) = (i : Int) + 1 := by rw [IntKind.wrap_i64]; omega
  have hb1 : (0 : Int) ≤ (i : Int) + 1 := by omega
  have hin : i ≤ n := by omega
  have htn : ((i : Int) + 1).toNat = i + 1 := by omega
  have hb3 : (i : Int) ≤ (n : Int) := by omega
  clear hkk hik hold hROW hG hRl
  go_enter Tryz.func102, Tryz.ntmps102
  go_wp2_with (first
    | (at_builtin; refine Lib.wpList_append_run _ rfl _ _ _ _ rfl _ _ rfl rfl _ _ (hrz _) ?_)
    | (at_builtin; refine wpList_copy_runI _ rfl _ _ 125 125 rfl _ _ rfl rfl (hcpA _ hE1 hE2 _ _) ?_)
    | (at_builtin; refine wpList_copy_runI _ rfl _ _ 125 125 rfl _ _ rfl rfl (hcpB _ (fun _ => rfl) (fun _ => rfl) _ _ _) ?_))
  go_region_law_o (refine step_copy_runI rfl _ _ 125 125 rfl (.slice (some ⟨w.heap.size, (i + 1) * 3, none⟩) (n - i) (G - (i + 1))) (.slice (some ⟨g, i * 3, none⟩) (n - i) (c - i)) (by simp [Act.eval, Act.put]) (by simp [Act.eval, Act.put]) (hcpB _ hF1 hF2 3 (G - (i + 1)) (c - i)) ?_)
  go_wp2
  go_ret
  exact ⟨rfl, rfl⟩
theorem scells_len (l : List USpan) : (scells l).length = l.length * 3 := by
  induction l with
  | nil => rfl
  | cons a r ih => simp [scells, spanCells] at *; omega
theorem scells_append (l m : List USpan) : scells (l ++ m) = scells l ++ scells m := by simp [scells]
theorem scells_take (l : List USpan) (i : Nat) : scells (l.take i) = (scells l).take (i * 3) := by
  induction l generalizing i with
  | nil => simp [scells]
  | cons a r ih =>
    cases i with
    | zero => simp [scells]
    | succ i =>
      have := ih i
      simp only [scells] at this
      rw [List.take_succ_cons]
      simp only [scells, List.flatMap_cons]
      rw [this, show (i + 1) * 3 = i * 3 + 1 + 1 + 1 by omega]
      rfl
theorem scells_drop (l : List USpan) (i : Nat) : scells (l.drop i) = (scells l).drop (i * 3) := by
  have h := scells_append (l.take i) (l.drop i)
  rw [List.take_append_drop] at h
  have h2 := List.take_append_drop (i * 3) (scells l)
  rw [← scells_take] at h2
  exact (List.append_cancel_left (h2.trans h)).symm
theorem scells_one {l : List USpan} : ∀ v ∈ scells l, v.oneCell' = true := by
  intro v hv
  obtain ⟨e, _, h⟩ := List.mem_flatMap.1 hv
  simp [spanCells] at h
  rcases h with rfl | rfl | rfl <;> rfl
theorem reps_spans (l : List USpan) (w : World) (base : Nat) (ok : Nat → Prop) : Reps (spanK.M w base ok) spanK.sz l (scells l) := by
  refine ⟨scells_len l, fun j p hj => ?_⟩
  obtain ⟨hl, rfl⟩ := List.getElem?_eq_some_iff.1 hj
  show spanK.M w base ok l[j] (((scells l).drop (j * 3)).take 3)
  rw [← scells_drop, List.drop_eq_getElem_cons hl]
  simp only [scells, List.flatMap_cons, List.cons_append, List.nil_append]
  exact spanK_mkM _ _ _ _
theorem spans_of_reps {l : List USpan} {inner : List Value} {w : World} {base : Nat} {ok : Nat → Prop} (h : Reps (spanK.M w base ok) spanK.sz l inner) : inner = scells l := by
  obtain ⟨h1, h2⟩ := h
  have h1' : inner.length = l.length * 3 := h1
  apply List.ext_getElem?
  intro t
  rcases Nat.lt_or_ge t (l.length * 3) with ht | ht
  · have hj : t / 3 < l.length := by omega
    have a := h2 (t / 3) _ (List.getElem?_eq_getElem hj)
    have b := (reps_spans l w base ok).2 (t / 3) _ (List.getElem?_eq_getElem hj)
    have a' := spanK_openM a
    have b' := spanK_openM b
    have := a'.trans b'.symm
    have e : ((inner.drop (t / 3 * 3)).take 3)[t % 3]? = (((scells l).drop (t / 3 * 3)).take 3)[t % 3]? := by
      have : ((inner.drop (t / 3 * spanK.sz)).take spanK.sz) = (((scells l).drop (t / 3 * spanK.sz)).take spanK.sz) := this
      exact congrArg (fun q : List Value => q[t % 3]?) this
    rw [List.getElem?_take_of_lt (by omega), List.getElem?_take_of_lt (by omega), List.getElem?_drop, List.getElem?_drop, show t / 3 * 3 + t % 3 = t by omega] at e
    exact e
  · rw [List.getElem?_eq_none (by omega), List.getElem?_eq_none (by rw [scells_len]; omega)]
theorem own_spans {w : World} {base : Nat} {ok : Nat → Prop} {v : Value} {l : List USpan} (h : Kd.R spanK 96 w base ok v l) : w.ownsRow base 96 3 v l.length (scells l) := by
  obtain ⟨_, inner, ho, hr⟩ := h
  rw [← spans_of_reps hr]; exact ho
theorem spans_own {w : World} {base : Nat} {v : Value} {l : List USpan} (h : w.ownsRow base 96 3 v l.length (scells l)) : Kd.R spanK 96 w base (fun _ => True) v l := ⟨fun _ _ => trivial, scells l, h, reps_spans l _ _ _⟩

theorem mid_list (cur cs vs : List Value) (n i : Nat) (hi : i < n) (hcs : cur.take (n * 3) = cs) (hcl : cs.length = n * 3) (hcur : (n + 1) * 3 ≤ cur.length) (hv : vs.length = 3) :
    (((cur.take ((i + 1) * 3) ++ cs.drop (i * 3) ++ cur.drop ((i + 1) * 3 + (cs.drop (i * 3)).length)).take (i * 3) ++ vs ++ (cur.take ((i + 1) * 3) ++ cs.drop (i * 3) ++ cur.drop ((i + 1) * 3 + (cs.drop (i * 3)).length)).drop (i * 3 + vs.length))).take ((n + 1) * 3) = cs.take (i * 3) ++ vs ++ cs.drop (i * 3) := by
  have e1 : (cur.take ((i + 1) * 3) ++ cs.drop (i * 3) ++ cur.drop ((i + 1) * 3 + (cs.drop (i * 3)).length)).take (i * 3) = cs.take (i * 3) := by
    rw [List.append_assoc, List.take_append_of_le_length (by rw [List.length_take]; omega), List.take_take, Nat.min_eq_left (by omega), ← hcs, List.take_take, Nat.min_eq_left (by omega)]
  have e2 : (cur.take ((i + 1) * 3) ++ cs.drop (i * 3) ++ cur.drop ((i + 1) * 3 + (cs.drop (i * 3)).length)).drop (i * 3 + vs.length) = cs.drop (i * 3) ++ cur.drop ((i + 1) * 3 + (cs.drop (i * 3)).length) := by
    rw [List.append_assoc, hv]
    have hl : (cur.take ((i + 1) * 3)).length = i * 3 + 3 := by rw [List.length_take]; omega
    rw [← hl, List.drop_left]
  rw [e1, e2, ← List.append_assoc, List.take_append_of_le_length (by simp [hv, hcl]; omega), List.take_of_length_le (by simp [hv, hcl]; omega)]

/-- One edge is put into a row of edges. -/
theorem insert_span (v : Value) (l : List USpan) (i : Nat) (y : USpan) (vb : Nat) (base : Nat) (w : World) (hown : Kd.R spanK 96 w base (fun _ => True) v l) (hi : i ≤ l.length) (hb : base ≤ w.heap.size) (hn : (l.length + 1) * 32 ≤ 140737488355328)
    (hbox : w.heap[vb]? = some (.cells #[.int .i64 y.first, .int .i64 y.last, .string y.val] 96 (0, 0))) (hne : v.ownBlock ≠ some vb) :
    Calls Tryz.prog 102 #[v, .int .i64 i, .slice (some ⟨vb, 0, none⟩) 1 1] w fun e w' => ∃ v', e = .returned v' ∧ Kd.R spanK 96 w' base (fun _ => True) v' (l.take i ++ y :: l.drop i) ∧ w.grownBy w' v.ownBlock ∧ (v'.ownBlock = v.ownBlock ∨ ∃ b, v'.ownBlock = some b ∧ w.heap.size ≤ b) := by
  have hvs : ∀ j u, (spanCells y)[j]? = some u → w.cell? ⟨vb, j, none⟩ = some u := by
    intro j u hj
    rw [blk_cell hbox]; simpa [spanCells] using hj
  rcases Nat.lt_or_ge i l.length with hlt | hge
  · have ho := own_spans hown
    have hlc := scells_len l
    rcases ho.2 with ⟨rfl, h0⟩ | ⟨g, cap, cur, rfl, hg, hh, hnc, hm, hsz, ht⟩
    · omega
    · have hgv : vb ≠ g := fun e => hne (by rw [e]; rfl)
      have hcs : ∀ j u, (scells l)[j]? = some u → w.cell? ⟨g, j, none⟩ = some u := by
        intro j u hj
        rw [blk_cell hh, ← Array.getElem?_toList]
        rw [← ht, List.getElem?_take] at hj
        split at hj
        · exact hj
        · cases hj
      by_cases hr : l.length + 1 ≤ cap
      · refine (insert_shift g l.length cap i vb (scells l) (spanCells y) w hlt hr (by unfold maxLen at hm; omega) hgv hlc rfl hcs (fun j hj => by rw [blk_cell hh, Array.getElem?_eq_getElem (by omega)]; rfl) (fun j => blk_frozen hh j) hvs scells_one (by intro u hu; simp [spanCells] at hu; rcases hu with rfl | rfl | rfl <;> rfl)
          96 96 3 cur.size (by simp [World.shape?, hbox]) (by simp [World.shape?, hh]) (by omega) (blk_frozen hbox _) (blk_frozen hbox _)).mono ?_
        rintro e w' ⟨rfl, rfl⟩
        obtain ⟨c1, k1, z1, t1⟩ := setCells_row ((scells l).drop (i * 3)) ((i + 1) * 3) w.drew cur hh (by rw [List.length_drop, hlc]; omega)
        obtain ⟨c2, k2, z2, t2⟩ := setCells_row (spanCells y) (i * 3) _ c1 k1 (by rw [z1]; simp; omega)
        have hm2 := mid_list cur.toList (scells l) (spanCells y) l.length i hlt ht hlc (by have h9 : cur.toList.length = cur.size := Array.length_toList; omega) rfl
        rw [← t1, ← t2] at hm2
        refine ⟨_, rfl, spans_own ?_, ?_, .inl rfl⟩
        · have el : (l.take i ++ y :: l.drop i).length = l.length + 1 := by simp; omega
          have ec : scells (l.take i ++ y :: l.drop i) = (scells l).take (i * 3) ++ (spanCells y) ++ (scells l).drop (i * 3) := by
            rw [scells_append, scells_take, show y :: l.drop i = [y] ++ l.drop i from rfl, scells_append, scells_drop, List.append_assoc]; rfl
          rw [el, ec]
          exact ⟨by simp [hlc]; omega, .inr ⟨g, cap, c2, rfl, hg, k2, hr, hm, by rw [z2, z1]; exact hsz, hm2⟩⟩
        · obtain ⟨o1, o2, o3, o4⟩ := setCells_same g ((scells l).drop (i * 3)) ((i + 1) * 3) w.drew
          obtain ⟨p1, p2, p3, p4⟩ := setCells_same g (spanCells y) (i * 3) (w.drew.setCells g ((i + 1) * 3) ((scells l).drop (i * 3)))
          exact ⟨p1.trans o1, p2.trans o2, p3.trans o3, by rw [p4, o4]; exact Nat.le_refl _, fun k hk hne2 => (setCells_far _ _ k (fun e => hne2 (by rw [e]; rfl))).trans (setCells_far _ _ k (fun e => hne2 (by rw [e]; rfl)))⟩
      · refine (insert_grow g l.length cap i vb (scells l) (spanCells y) w hlt hnc (by omega) hn hlc rfl hcs hvs scells_one (by intro u hu; simp [spanCells] at hu; rcases hu with rfl | rfl | rfl <;> rfl)).mono ?_
        rintro e w' ⟨rfl, rfl⟩
        obtain ⟨G, hG⟩ : ∃ G, G = grownCap w (l.length + 1) cap 96 := ⟨_, rfl⟩
        rw [← hG]
        have hGn : l.length + 1 ≤ G := by rw [hG]; exact grownCap_ge w _ _ _
        have hGm : G ≤ maxLen := by rw [hG]; exact grownCap_le_maxLen w (l.length + 1) cap 96 (by unfold maxLen; omega)
        have hd2 : ((scells l).drop (i * 3)).length = (l.length - i) * 3 := by rw [List.length_drop, hlc]; omega
        have ht2 : ((scells l).take (i * 3)).length = i * 3 := by rw [List.length_take, hlc]; omega
        have hs0 : (newRow ((scells l).take (i * 3)) (l.length + 1 - i) (G - (l.length + 1))).size = G * 3 := by
          simp [newRow, Builtin.zeroCells, Value.cells, hlc]; omega
        have hp0 : (newRow ((scells l).take (i * 3)) (l.length + 1 - i) (G - (l.length + 1))).toList.take (i * 3) = (scells l).take (i * 3) := by
          unfold newRow
          rw [Array.toList_append, Array.toList_append, List.append_assoc, List.take_append_of_le_length (by simp [hlc]; omega), List.take_of_length_le (by rw [ht2]; exact Nat.le_refl _)]
        generalize newRow ((scells l).take (i * 3)) (l.length + 1 - i) (G - (l.length + 1)) = R at hs0 hp0 ⊢
        have h0 := heap_alloc_new w (.cells R 96)
        obtain ⟨c1, k1, z1, t1⟩ := setCells_row (spanCells y) (i * 3) (w.alloc (.cells R 96)).drew R h0 (by simp; omega)
        obtain ⟨c2, k2, z2, t2⟩ := setCells_row ((scells l).drop (i * 3)) ((i + 1) * 3) (((w.alloc (.cells R 96)).drew.setCells w.heap.size (i * 3) (spanCells y)).drew) c1 k1 (by rw [z1]; omega)
        have hlen1 : c1.toList.length = G * 3 := by have : c1.toList.length = c1.size := Array.length_toList; omega
        have e1 : c1.toList.take ((i + 1) * 3) = (scells l).take (i * 3) ++ (spanCells y) := by
          rw [t1, hp0, List.take_append_of_le_length (by simp [hlc]; omega), List.take_of_length_le (by simp [hlc]; omega)]
        have e2 : c2.toList.take ((l.length + 1) * 3) = (scells l).take (i * 3) ++ (spanCells y) ++ (scells l).drop (i * 3) := by
          rw [t2, e1, List.take_append_of_le_length (by simp [hlc]; omega), List.take_of_length_le (by simp [hlc]; omega)]
        refine ⟨_, rfl, spans_own ?_, ?_, .inr ⟨w.heap.size, rfl, Nat.le_refl _⟩⟩
        · have el : (l.take i ++ y :: l.drop i).length = l.length + 1 := by simp; omega
          have ec : scells (l.take i ++ y :: l.drop i) = (scells l).take (i * 3) ++ (spanCells y) ++ (scells l).drop (i * 3) := by
            rw [scells_append, scells_take, show y :: l.drop i = [y] ++ l.drop i from rfl, scells_append, scells_drop, List.append_assoc]; rfl
          rw [el, ec]
          exact ⟨by simp [hlc]; omega, .inr ⟨w.heap.size, G, c2, rfl, hb, k2, hGn, hGm, by rw [z2, z1]; exact hs0, e2⟩⟩
        · obtain ⟨o1, o2, o3, o4⟩ := setCells_same w.heap.size (spanCells y) (i * 3) (w.alloc (.cells R 96)).drew
          obtain ⟨p1, p2, p3, p4⟩ := setCells_same w.heap.size ((scells l).drop (i * 3)) ((i + 1) * 3) ((w.alloc (.cells R 96)).drew.setCells w.heap.size (i * 3) (spanCells y)).drew
          have hsz0 : w.heap.size ≤ ((w.alloc (.cells R 96)).drew).heap.size := by show w.heap.size ≤ (w.heap.push _).size; simp
          refine ⟨p1.trans o1, p2.trans o2, p3.trans o3, by rw [p4]; exact Nat.le_trans hsz0 (Nat.le_of_eq o4.symm), fun k hk _ => ?_⟩
          exact (setCells_far _ _ k (by omega)).trans ((setCells_far _ _ k (by omega)).trans (Below.heap_alloc w _ k hk))
  · obtain rfl : i = l.length := by omega
    rw [List.take_of_length_le (Nat.le_refl _), List.drop_of_length_le (Nat.le_refl _)]
    refine insert_end v l y vb base w hown hb hn ⟨rfl, by decide, fun _ => ⟨_, rfl, fun j p hj => ?_⟩⟩
    cases j with
    | zero =>
      simp at hj
      subst hj
      refine ⟨_, rfl, spanK_mk w y, fun k u hk => ?_⟩
      have := hvs k u hk
      rw [Nat.zero_mul, Nat.zero_add, Addr.add_lit, Nat.zero_add]; exact this
    | succ j => simp at hj
end Go.Proofs.YtebgebgkieglhaaGreatDoor.FieldW
end
section
/- span: find, Value, Has. -/
namespace Go.Proofs.YtebgebgkieglhaaGreatDoor.FieldW
open Go.RowKit Go.Shelf Go.Lib Go.Proofs Go.Proofs.YtebgebgkieglhaaGreatDoorW.PrintWords Go.Proofs.YtebgebgkieglhaaGreatDoorW.PrintLast Go.Proofs.YtebgebgkieglhaaGreatDoorW.PrintMore Go.Proofs.YtebgebgkieglhaaGreatDoor.PRef
set_option linter.unusedVariables false
set_option linter.unusedSimpArgs false

theorem beq_data (x y : ByteArray) : (x.data == y.data) = (x.data.toList == y.data.toList) := by
  rw [Bool.eq_iff_iff, beq_iff_eq, beq_iff_eq, Array.toList_inj]
/-- A table of spans in memory. -/
def STab (w : World) (base g : Nat) (l : List USpan) : Prop := ∃ v, w.heap[g]? = some (.cells #[v] 128 (0, 0)) ∧ base ≤ g ∧ Kd.R spanK 96 w base (fun k => k ≠ g) v l
theorem STab.below {w w' : World} {base g : Nat} {l : List USpan} (h : STab w base g l) (hb : Go.RowKit.Below w.heap.size w w') : STab w' base g l := by
  obtain ⟨v, h1, h2, h3⟩ := h
  exact ⟨v, (hb.block _ (blk_lt h1)).trans h1, h2, Kd.R_below h3 hb⟩
/-- A code point's value. -/
def valS (l : List USpan) (c : Int) : ByteArray := match l[ahead (cfS c) l]? with
  | some s => if s.first ≤ c then s.val else ⟨#[]⟩
  | none => ⟨#[]⟩
set_option maxHeartbeats 4000000 in
set_option maxRecDepth 100000 in
theorem spans_get (g : Nat) (v : Value) (w : World) (hv : w.cell? ⟨g, 0, none⟩ = some v) : Calls Tryz.prog 73 #[.pointer (some ⟨g, 0, none⟩)] w fun e w' => e = .returned v ∧ w' = w := by
  go_enter Tryz.func73, Tryz.ntmps73
  go_wp2
  go_ret
  exact ⟨rfl, rfl⟩
set_option maxHeartbeats 4000000 in
set_option maxRecDepth 100000 in
theorem find_calls (base g : Nat) (l : List USpan) (c : Int) (w : World) (hT : STab w base g l) (hlen : l.length ≤ 1000000000) (hS : RisingS l) :
    Calls Tryz.prog 72 #[.pointer (some ⟨g, 0, none⟩), .int .i64 c] w fun e w' => e = .returned (.int .i64 (ahead (cfS c) l)) ∧ Go.RowKit.Below w.heap.size w w' := by
  obtain ⟨v, h1, h2, h3⟩ := hT
  have hv : w.cell? ⟨g, 0, none⟩ = some v := (blk_cell h1 0).trans rfl
  have H := Aside0.mk (And.intro h3 (And.intro hlen hS))
  clear h1 h2 h3 hS
  go_enter Tryz.func72, Tryz.ntmps72
  go_wp2_with (first
    | (go_at_call 73; with_reducible refine (spans_get g v _ hv).mono ?_; rintro e w2 ⟨rfl, rfl⟩)
    | (go_at_call 90; with_reducible refine (bsSpan v base _ l c _ H.out.1 H.out.2.1 H.out.2.2).mono ?_; rintro e w2 ⟨rfl, hg2⟩; have G2 := Aside0.mk hg2; clear hg2))
  go_ret
  exact ⟨rfl, G2.out⟩
set_option maxHeartbeats 4000000 in
set_option maxRecDepth 100000 in
theorem value_calls (base g : Nat) (l : List USpan) (c : Int) (w : World) (hT : STab w base g l) (hlen : l.length ≤ 1000000000) (hS : RisingS l) :
    Calls Tryz.prog 51 #[.pointer (some ⟨g, 0, none⟩), .int .i64 c] w fun e w' => e = .returned (.string (valS l c)) ∧ Go.RowKit.Below w.heap.size w w' := by
  have HT := Aside0.mk (And.intro hT hS)
  obtain ⟨v, h1, h2, h3⟩ := hT
  have hv : w.cell? ⟨g, 0, none⟩ = some v := (blk_cell h1 0).trans rfl
  have hglt := blk_lt h1
  obtain ⟨A, cc, rfl⟩ := Kd.R_slice h3
  have hi := ahead_le (cfS c) l
  obtain ⟨i, hai⟩ : ∃ i, i = ahead (cfS c) l := ⟨_, rfl⟩
  have hval : valS l c = match l[i]? with
    | some s => if s.first ≤ c then s.val else ⟨#[]⟩
    | none => ⟨#[]⟩ := by rw [hai]; rfl
  rw [← hai] at hi
  have HA := Aside0.mk hai
  have HV := Aside0.mk hval
  clear h1 h2 hS hai hval
  by_cases hl : i < l.length
  · obtain ⟨g1, cap, cur, ev, -, -, -, hcells⟩ := spans_at h3 i hl
    injection ev with ev1 ev2 ev3
    subst ev1
    obtain ⟨x, hx⟩ : ∃ x, x = l[i] := ⟨_, rfl⟩
    rw [← hx] at hcells
    have k0 := hcells 0 _ rfl
    have k1 := hcells 1 _ rfl
    have k2 := hcells 2 _ rfl
    simp only [Nat.add_zero] at k0 k1 k2
    have hx2 : l[i]? = some x := by rw [hx, List.getElem?_eq_getElem hl]
    rw [hx2] at HV
    clear hcells hx ev2 ev3 h3 hx2
    have K := Aside0.mk (And.intro hv (And.intro k0 (And.intro k1 k2)))
    clear hv k0 k1 k2
    go_enter Tryz.func51, Tryz.ntmps51
    go_wp2_with (first
      | (go_at_call 72; with_reducible refine (find_calls base g l c _ HT.out.1 hlen HT.out.2).mono ?_; rintro e w2 ⟨rfl, hg2⟩; rw [← HA.out]; have hv := cell_up hg2 K.out.1; have k0 := cell_up hg2 K.out.2.1; have k1 := cell_up hg2 K.out.2.2.1; have k2 := cell_up hg2 K.out.2.2.2; have G2 := Aside0.mk hg2; clear hg2)
      | (go_at_call 73; with_reducible refine (spans_get g _ _ hv).mono ?_; rintro e w3 ⟨rfl, rfl⟩))
    · go_ret
      exact ⟨by rw [HV.out, if_pos (by assumption)]; rfl, G2.out⟩
    · go_ret
      exact ⟨by rw [HV.out, if_neg (by omega)]; rfl, G2.out⟩
  · have hx2 : l[i]? = none := List.getElem?_eq_none (by omega)
    rw [hx2] at HV
    have K := Aside0.mk hv
    clear h3 hx2 hv
    go_enter Tryz.func51, Tryz.ntmps51
    go_wp2_with (first
      | (go_at_call 72; with_reducible refine (find_calls base g l c _ HT.out.1 hlen HT.out.2).mono ?_; rintro e w2 ⟨rfl, hg2⟩; rw [← HA.out]; have hv := cell_up hg2 K.out; have G2 := Aside0.mk hg2; clear hg2)
      | (go_at_call 73; with_reducible refine (spans_get g _ _ hv).mono ?_; rintro e w3 ⟨rfl, rfl⟩))
    go_ret
    exact ⟨by rw [HV.out]; rfl, G2.out⟩
set_option maxHeartbeats 4000000 in
set_option maxRecDepth 100000 in
theorem has_calls (base g : Nat) (l : List USpan) (c : Int) (s : ByteArray) (w : World) (hT : STab w base g l) (hlen : l.length ≤ 1000000000) (hS : RisingS l) (hs : s.data.toList ≠ []) :
    Calls Tryz.prog 43 #[.pointer (some ⟨g, 0, none⟩), .int .i64 c, .string s] w fun e w' => e = .returned (.bool ((valS l c).data.toList == s.data.toList)) ∧ Go.RowKit.Below w.heap.size w w' := by
  have HT := Aside0.mk (And.intro hT (And.intro hlen hS))
  have hb : (s.data.toList != []) = true := by simpa using hs
  have hb1 : (s.toList == []) = false := by rw [ByteArray.toList_eq]; simpa using hs
  obtain ⟨y, hy⟩ : ∃ y, y = valS l c := ⟨_, rfl⟩
  have e1 : (y.toList == s.toList) = (y.data.toList == s.data.toList) := by rw [ByteArray.toList_eq, ByteArray.toList_eq]
  rw [← hy]
  have HY := Aside0.mk hy
  clear hT hlen hS hs hy
  go_enter Tryz.func43, Tryz.ntmps43
  go_wp2_with (go_at_call 51; with_reducible refine (value_calls base g l c _ HT.out.1 HT.out.2.1 HT.out.2.2).mono ?_; rintro e w2 ⟨rfl, hg2⟩; rw [← HY.out]; have G2 := Aside0.mk hg2; clear hg2)
  go_ret
  exact ⟨by show Ending.returned (.bool (y.data == s.data)) = _; rw [beq_data], G2.out⟩
end Go.Proofs.YtebgebgkieglhaaGreatDoor.FieldW
end
section
/- span: slices.Clone. -/
namespace Go.Proofs.YtebgebgkieglhaaGreatDoor.FieldW
open Go.RowKit Go.Shelf Go.Lib Go.Proofs Go.Proofs.YtebgebgkieglhaaGreatDoorW.PrintWords Go.Proofs.YtebgebgkieglhaaGreatDoorW.PrintLast Go.Proofs.YtebgebgkieglhaaGreatDoorW.PrintMore Go.Proofs.YtebgebgkieglhaaGreatDoor.PRef
set_option linter.unusedVariables false
set_option linter.unusedSimpArgs false

set_option maxHeartbeats 4000000 in
set_option maxRecDepth 100000 in
theorem clone_spans (v : Value) (base : Nat) (ok : Nat → Prop) (l : List USpan) (w : World) (hR : Kd.R spanK 96 w base ok v l) (hl : l.length ≤ 1000000) :
    Calls Tryz.prog 103 #[v] w fun e w' => ∃ v', e = .returned v' ∧ Kd.R spanK 96 w' w.heap.size (fun _ => True) v' l ∧ Go.RowKit.Below w.heap.size w w' := by
  obtain ⟨A, c, rfl, hlc, hC⟩ := Kd.R_reads hR
  have hq := fun w => Go.Lib.run_eql_slice_nil (P := Tryz.prog) w 125 96 A l.length c 0 0 Tryz.underlying125
  have hKM : ∀ (x : USpan) cs, spanK.K w x cs → spanK.M w w.heap.size (fun _ => True ∧ False) x cs := fun x cs h => by obtain rfl := spanK_open h; exact spanK_mkM _ _ _ _
  have HK := Aside0.mk hKM
  clear hKM
  cases A with
  | none =>
    have h0 : l.length = 0 := by
      rcases Nat.eq_zero_or_pos l.length with h | h
      · exact h
      · obtain ⟨ad, h1, _⟩ := hC.2.2 h; cases h1
    have hnil : l = [] := List.length_eq_zero_iff.1 h0
    subst hnil
    simp only [Option.isNone_none, List.length_nil] at hq
    clear hR hC hl h0
    go_enter Tryz.func103, Tryz.ntmps103
    go_wp2
    go_ret
    exact ⟨_, rfl, Kd.R_nil _ _ _ _ _, Go.RowKit.Below.refl _ _⟩
  | some ad =>
    simp only [Option.isNone_some] at hq
    have HR := Aside0.mk hC
    clear hR hC
    go_enter Tryz.func103, Tryz.ntmps103
    go_wp2_with (first
      | ((with_reducible refine gate_dst (N := 5) rfl ?_); refine Kd.R_lit spanK w.heap.size 96 ?hg (N := 5) ?hd (xs := ([] : List USpan)) (inner := []) (ok := fun _ => True) (okp := fun _ => True) ?hr ?hp (fun _ hk => hk) trivial (Go.RowKit.Below.refl _ _) (Nat.le_refl _) (by simp) ?_; (case hd => rfl); (case hg => rfl); (case hr => first | (go_simp; done) | (go_simp; rfl)); (case hp => exact Reps.none _ _); intro v1 w1 ho1 hb1 hg1 hn1; have HO := Aside0.mk ho1; have HB := Aside0.mk hb1; clear ho1 hb1 hg1 hn1)
      | ((with_reducible refine gate_dst (N := 7) rfl ?_); refine Kd.R_append_rows spanK (Rr := spanK.K w1) (w0 := w) w.heap.size rfl (.tmp 5) (.tmp 6) 125 96 (.agg #[.int .i64 0, .int .i64 0, .string ⟨#[]⟩]) 32 rfl Tryz.underlying125 info96 rfl (show 0 < 3 by decide) (by decide) _ [] l (some ad) l.length c (fun _ => True) (fun _ => True ∧ False) rfl rfl HO.out (Kd.C_below HR.out HB.out) (fun x cs h => by obtain rfl := spanK_open h; exact spanK_mkM _ _ _ _) (fun _ h => h.2.elim) (fun _ _ => trivial) HB.out (below_size HB.out) (by simpa using (show l.length * 32 ≤ 140737488355328 by omega)) ?_; intro v2 w2 ho2 hb2 hg2 hn2; have HO2 := Aside0.mk ho2; have HB2 := Aside0.mk hb2; clear ho2 hb2 hg2 hn2))
    go_ret
    exact ⟨_, rfl, HO2.out, HB2.out⟩
end Go.Proofs.YtebgebgkieglhaaGreatDoor.FieldW
end
section
/- span: Add. -/
namespace Go.Proofs.YtebgebgkieglhaaGreatDoor.FieldW
open Go.RowKit Go.Shelf Go.Lib Go.Proofs Go.Proofs.YtebgebgkieglhaaGreatDoorW.PrintWords Go.Proofs.YtebgebgkieglhaaGreatDoorW.PrintLast Go.Proofs.YtebgebgkieglhaaGreatDoorW.PrintMore Go.Proofs.YtebgebgkieglhaaGreatDoor.PRef
set_option linter.unusedVariables false
set_option linter.unusedSimpArgs false

/-- Does the span at this place begin within it? -/
def hitS (l : List USpan) (s : USpan) : Bool := match l[ahead (cfS s.first) l]? with
  | some x => decide (x.first ≤ s.last)
  | none => false
/-- A table with one more span, or what is wrong. -/
def addS (l : List USpan) (s : USpan) : Option (List USpan) × Int :=
  if s.first < 0 ∨ 1114111 < s.last ∨ s.last < s.first then (none, 14)
  else if s.val.data.toList = [] then (none, 16)
  else if hitS l s then (none, 15)
  else (some (l.take (ahead (cfS s.first) l) ++ s :: l.drop (ahead (cfS s.first) l)), 0)
/-- A table of these spans, or none. -/
def resS (base : Nat) (r : Option (List USpan)) (p : Value) (w : World) : Prop := match r with
  | none => p = .pointer none
  | some rs => ∃ g, p = .pointer (some ⟨g, 0, none⟩) ∧ STab w base g rs
theorem clone_from (v : Value) (base : Nat) (ok : Nat → Prop) (l : List USpan) (w2 w : World) (hR : Kd.R spanK 96 w base ok v l) (hl : l.length ≤ 1000000) (hB : Go.RowKit.Below w2.heap.size w2 w) :
    Calls Tryz.prog 103 #[v] w fun e w' => ∃ v', e = .returned v' ∧ Kd.R spanK 96 w' w.heap.size (fun _ => True) v' l ∧ Go.RowKit.Below w.heap.size w w' ∧ Go.RowKit.Below w2.heap.size w2 w' :=
  (clone_spans v base ok l w hR hl).mono fun e w' ⟨v', h1, h2, h3⟩ => ⟨v', h1, h2, h3, hB.trans (h3.mono hB.size)⟩
theorem add_close {w w2 W w6 : World} {A6 : Option Addr} {n c6 : Nat} {L : List USpan} (h2 : Go.RowKit.Below w.heap.size w w2) (hW : Go.RowKit.Below w2.heap.size w2 W) (h6R : Kd.R spanK 96 w6 W.heap.size (fun _ => True) (.slice A6 n c6) L) (h6B : Go.RowKit.Below W.heap.size W w6) :
    Go.RowKit.Below w.heap.size w (w6.alloc (.cells #[.slice A6 n c6] 128)) ∧ resS w.heap.size (some L) (.pointer (some ⟨w6.heap.size, 0, none⟩)) (w6.alloc (.cells #[.slice A6 n c6] 128)) := by
  have b := h2.trans ((hW.trans (h6B.mono hW.size)).mono h2.size)
  refine ⟨below_alloc b _, w6.heap.size, rfl, _, heap_alloc_new _ _, b.size, ?_⟩
  exact Kd.R_below (Kd.R_lower (Kd.R_mono (Kd.R_bound h6R) (fun k hk => by have := hk.2.2.1; omega)) (Nat.le_trans h2.size hW.size)) (below_alloc (Go.RowKit.Below.refl _ _) _)
theorem ins_span (v4 : Value) (l : List USpan) (i : Nat) (s : USpan) (vb : Nat) (W w4 w5 : World) (hR : Kd.R spanK 96 w4 W.heap.size (fun _ => True) v4 l) (hW : Go.RowKit.Below W.heap.size W w4) (h45 : Go.RowKit.Below w4.heap.size w4 w5)
    (hbox : w5.heap[vb]? = some (.cells #[.int .i64 s.first, .int .i64 s.last, .string s.val] 96 (0, 0))) (hvb : vb < W.heap.size ∨ w4.heap.size ≤ vb) (hi : i ≤ l.length) (hl : l.length ≤ 1000000) :
    Calls Tryz.prog 102 #[v4, .int .i64 i, .slice (some ⟨vb, 0, none⟩) 1 1] w5 fun e w' => ∃ v', e = .returned v' ∧ Kd.R spanK 96 w' W.heap.size (fun _ => True) v' (l.take i ++ s :: l.drop i) ∧ Go.RowKit.Below W.heap.size W w' := by
  have hown : ∀ k, v4.ownBlock = some k → W.heap.size ≤ k ∧ k < w4.heap.size := fun k hk => by
    have := (Kd.R_bound hR).1 k hk
    exact ⟨this.2.1, this.2.2.1⟩
  refine (insert_span v4 l i s vb W.heap.size w5 (Kd.R_below hR h45) hi (Nat.le_trans hW.size h45.size) (by omega) hbox (fun e => by have := hown vb e; omega)).mono ?_
  rintro e w' ⟨v', rfl, h1, h2, -⟩
  refine ⟨v', rfl, h1, ?_⟩
  have b5 := hW.trans (h45.mono hW.size)
  exact ⟨h2.os.trans b5.os, h2.tape.trans b5.tape, h2.output.trans b5.output, Nat.le_trans b5.size h2.size, fun k hk => (h2.block k (Nat.lt_of_lt_of_le hk b5.size) (fun e => by have := hown k (by first | exact e | exact e.symm); omega)).trans (b5.block k hk)⟩
set_option maxHeartbeats 4000000 in
set_option maxRecDepth 100000 in
theorem add_calls (base g : Nat) (l : List USpan) (s : USpan) (w : World) (hT : STab w base g l) (hlen : l.length ≤ 1000000) (hS : RisingS l) :
    Calls Tryz.prog 80 #[.pointer (some ⟨g, 0, none⟩), .agg #[.int .i64 s.first, .int .i64 s.last, .string s.val]] w fun e w' => ∃ p, e = .returned (.tuple #[p, .int .i64 (addS l s).2]) ∧ Go.RowKit.Below w.heap.size w w' ∧ resS w.heap.size (addS l s).1 p w' := by
  have hgl : g < w.heap.size := by obtain ⟨v, h1, _⟩ := hT; exact blk_lt h1
  have HT := Aside0.mk (And.intro hT (And.intro hS hgl))
  obtain ⟨i, hai⟩ : ∃ i, i = ahead (cfS s.first) l := ⟨_, rfl⟩
  have hi : i ≤ l.length := by rw [hai]; exact ahead_le _ _
  have HA := Aside0.mk hai
  clear hT hS hai hgl
  obtain ⟨R, hR⟩ : ∃ R, R = addS l s := ⟨_, rfl⟩
  rw [← hR]
  have HR := Aside0.mk hR
  clear hR
  go_enter Tryz.func80, Tryz.ntmps80
  go_wp2_with fail
  obtain ⟨W0, hW0⟩ : ∃ W0, W0 = w.alloc (.cells #[.int .i64 s.first, .int .i64 s.last, .string s.val] 96) := ⟨_, rfl⟩
  have hB0 : Go.RowKit.Below w.heap.size w W0 := by rw [hW0]; exact below_alloc (Go.RowKit.Below.refl _ _) _
  have hbx : W0.heap[w.heap.size]? = some (.cells #[.int .i64 s.first, .int .i64 s.last, .string s.val] 96 (0, 0)) := by rw [hW0]; exact heap_alloc_new _ _
  rw [← hW0]
  have b0 : W0.cell? ⟨w.heap.size, 0, none⟩ = some _ := (blk_cell hbx 0).trans rfl
  have hsz0 : W0.heap.size = w.heap.size + 1 := by rw [hW0]; simp
  have H0 := Aside0.mk (And.intro hB0 (And.intro hbx hsz0))
  clear hW0 hB0 hbx hsz0
  go_wp2_with (go_at_call 72; with_reducible refine (find_calls base g l s.first _ (HT.out.1.below H0.out.1) (by omega) HT.out.2.1).mono ?_; rintro e w2 ⟨rfl, hg2⟩; rw [← HA.out]; have hbx2 := (hg2.block _ (blk_lt H0.out.2.1)).trans H0.out.2.1; have hB2 := H0.out.1.trans (hg2.mono H0.out.1.size); clear hg2; have b0 : w2.cell? ⟨w.heap.size, 0, none⟩ = some _ := (blk_cell hbx2 0).trans rfl; have b1 : w2.cell? ⟨w.heap.size, 1, none⟩ = some _ := (blk_cell hbx2 1).trans rfl; have b2 : w2.cell? ⟨w.heap.size, 2, none⟩ = some _ := (blk_cell hbx2 2).trans rfl; have H2 := Aside0.mk (And.intro hbx2 hB2); clear hbx2 hB2)
  all_goals first
    | (go_ret2
       have hR : R = (none, 14) := by rw [HR.out]; unfold addS; rw [if_pos (by omega)]
       rw [hR]
       exact ⟨_, rfl, H2.out.2, rfl⟩)
    | (go_ret2
       have hR : R = (none, 16) := by rw [HR.out]; unfold addS; rw [if_neg (by omega), if_pos (by rename_i h; rw [ByteArray.toList_eq] at h; exact List.isEmpty_iff.1 h)]
       rw [hR]
       exact ⟨_, rfl, H2.out.2, rfl⟩)
    | skip
  rename_i h0 h1 h2 h3 _ _
  have hadd : R = if hitS l s then (none, 15) else (some (l.take (ahead (cfS s.first) l) ++ s :: l.drop (ahead (cfS s.first) l)), 0) := by
    rw [HR.out]; unfold addS
    rw [if_neg (by omega), if_neg (by rw [ByteArray.toList_eq] at h3; intro e; rw [e] at h3; cases h3)]
  have HD := Aside0.mk hadd
  clear h0 h1 h2 h3 hadd
  obtain ⟨v, t1, -, hRv⟩ := HT.out.1
  have hv : w2.cell? ⟨g, 0, none⟩ = some v := (H2.out.2.cell HT.out.2.2).trans ((blk_cell t1 0).trans rfl)
  have hRv2 := Kd.R_below hRv H2.out.2
  obtain ⟨A, cc, rfl⟩ := Kd.R_slice hRv
  have hit : hitS l s = match l[i]? with
    | some x => decide (x.first ≤ s.last)
    | none => false := by rw [HA.out]; rfl
  have SG := Aside0.mk (fun W (hW : Go.RowKit.Below w2.heap.size w2 W) => spans_get g _ W (cell_up hW hv))
  have r0 := Go.RowKit.Below.refl w2.heap.size w2
  have HRV := Aside0.mk hRv2
  clear hRv t1
  by_cases hl : i < l.length
  · obtain ⟨g1, cap, cur, ev, -, -, -, hcells⟩ := spans_at hRv2 i hl
    injection ev with ev1 ev2 ev3
    subst ev1
    obtain ⟨x, hx⟩ : ∃ x, x = l[i] := ⟨_, rfl⟩
    rw [← hx] at hcells
    have k0 := hcells 0 _ rfl
    simp only [Nat.add_zero] at k0
    rw [List.getElem?_eq_getElem hl, ← hx] at hit
    dsimp only at hit
    have HXX := Aside0.mk hx
    clear hcells hx ev2 ev3 hRv2
    have hlz : (i : Int) < (l.length : Int) := by omega
    have hl1 : decide ((i : Int) < (l.length : Int)) = true := decide_eq_true hlz
    by_cases hh : x.first ≤ s.last
    · have hd : decide (x.first ≤ s.last) = true := decide_eq_true hh
      rw [hd] at hit
      have HI := Aside0.mk hit
      clear hit
      go_quiet ((go_at_call 73; first | refine quiet9 (SG.out _ (by repeat (first | exact r0 | apply pw_below_drewN | apply below_drew1))) | refine Calls.quiet_of_same (SG.out _ (by repeat (first | exact r0 | apply pw_below_drewN | apply below_drew1)))))
      go_wp2_with fail
      go_ret2
      have hR : R = (none, 15) := by rw [HD.out, HI.out]; rfl
      rw [hR]
      exact ⟨_, rfl, by repeat (first | exact H2.out.2 | apply pw_below_drewN | apply below_drew1), rfl⟩
    · have hd : decide (x.first ≤ s.last) = false := decide_eq_false hh
      rw [hd] at hit
      have HI := Aside0.mk hit
      clear hit
      go_quiet ((go_at_call 73; first | refine quiet9 (SG.out _ (by repeat (first | exact r0 | apply pw_below_drewN | apply below_drew1))) | refine Calls.quiet_of_same (SG.out _ (by repeat (first | exact r0 | apply pw_below_drewN | apply below_drew1)))))
      go_wp2_with fail
      go_region_law (first
        | (go_simp; go_at_call 73; with_reducible refine (SG.out _ (by repeat (first | exact r0 | apply pw_below_drewN | apply below_drew1 | apply below_alloc))).mono ?_; rintro e w3 ⟨rfl, rfl⟩)
        | (go_simp; go_at_call 103; with_reducible refine (clone_from _ base (fun k => k ≠ g) l w2 _ (Kd.R_below HRV.out (by repeat (first | exact r0 | apply pw_below_drewN | apply below_drew1 | apply below_alloc))) (by omega) (by repeat (first | exact r0 | apply pw_below_drewN | apply below_drew1 | apply below_alloc))).mono ?_; rintro e w4 ⟨v4, rfl, h4R, h4B, h4C⟩; have d0 := cell_up h4C b0; have d1 := cell_up h4C b1; have d2 := cell_up h4C b2; have C4 := Aside0.mk (And.intro h4R (And.intro h4B h4C)); clear h4R h4B h4C)
        | (go_simp; go_at_call 102; with_reducible refine (ins_span v4 l i s _ _ _ _ C4.out.1 C4.out.2.1 (by repeat (first | exact Go.RowKit.Below.refl _ _ | apply below_alloc)) (by first | exact heap_alloc_new _ _ | exact (C4.out.2.1.block _ (by simp)).trans (heap_alloc_new _ _)) (by first | exact Or.inr (Nat.le_refl _) | (refine Or.inl ?_; simp; done)) hi (by omega)).mono ?_; rintro e w6 ⟨v6, rfl, h6R, h6B⟩; obtain ⟨A6, c6, rfl⟩ := Kd.R_slice h6R; have C6 := Aside0.mk (And.intro h6R h6B); clear h6R h6B))
      all_goals (
        go_wp2_with fail
        go_ret2
        have hR : R = (some (l.take i ++ s :: l.drop i), 0) := by rw [HD.out, HI.out, ← HA.out]; rfl
        obtain ⟨q1, q2⟩ := add_close H2.out.2 (by repeat (first | exact r0 | apply pw_below_drewN | apply below_drew1 | apply below_alloc)) C6.out.1 C6.out.2
        rw [show (l.take i ++ s :: l.drop i).length = i + (l.length - i + 1) by simp; omega] at q1 q2
        rw [hR]
        exact ⟨_, rfl, q1, q2⟩)
  · rw [List.getElem?_eq_none (by omega)] at hit
    dsimp only at hit
    have HI := Aside0.mk hit
    clear hit hRv2
    have hlz : ¬ (i : Int) < (l.length : Int) := by omega
    have hl1 : decide ((i : Int) < (l.length : Int)) = false := decide_eq_false hlz
    go_quiet ((go_at_call 73; first | refine quiet9 (SG.out _ (by repeat (first | exact r0 | apply pw_below_drewN | apply below_drew1))) | refine Calls.quiet_of_same (SG.out _ (by repeat (first | exact r0 | apply pw_below_drewN | apply below_drew1)))))
    go_wp2_with fail
    go_region_law (first
      | (go_simp; go_at_call 73; with_reducible refine (SG.out _ (by repeat (first | exact r0 | apply pw_below_drewN | apply below_drew1 | apply below_alloc))).mono ?_; rintro e w3 ⟨rfl, rfl⟩)
      | (go_simp; go_at_call 103; with_reducible refine (clone_from _ base (fun k => k ≠ g) l w2 _ (Kd.R_below HRV.out (by repeat (first | exact r0 | apply pw_below_drewN | apply below_drew1 | apply below_alloc))) (by omega) (by repeat (first | exact r0 | apply pw_below_drewN | apply below_drew1 | apply below_alloc))).mono ?_; rintro e w4 ⟨v4, rfl, h4R, h4B, h4C⟩; have d0 := cell_up h4C b0; have d1 := cell_up h4C b1; have d2 := cell_up h4C b2; have C4 := Aside0.mk (And.intro h4R (And.intro h4B h4C)); clear h4R h4B h4C)
      | (go_simp; go_at_call 102; with_reducible refine (ins_span v4 l i s _ _ _ _ C4.out.1 C4.out.2.1 (by repeat (first | exact Go.RowKit.Below.refl _ _ | apply below_alloc)) (by first | exact heap_alloc_new _ _ | exact (C4.out.2.1.block _ (by simp)).trans (heap_alloc_new _ _)) (by first | exact Or.inr (Nat.le_refl _) | (refine Or.inl ?_; simp; done)) hi (by omega)).mono ?_; rintro e w6 ⟨v6, rfl, h6R, h6B⟩; obtain ⟨A6, c6, rfl⟩ := Kd.R_slice h6R; have C6 := Aside0.mk (And.intro h6R h6B); clear h6R h6B))
    all_goals (
      go_wp2_with fail
      go_ret2
      have hR : R = (some (l.take i ++ s :: l.drop i), 0) := by rw [HD.out, HI.out, ← HA.out]; rfl
      obtain ⟨q1, q2⟩ := add_close H2.out.2 (by repeat (first | exact r0 | apply pw_below_drewN | apply below_drew1 | apply below_alloc)) C6.out.1 C6.out.2
      rw [show (l.take i ++ s :: l.drop i).length = i + (l.length - i + 1) by simp; omega] at q1 q2
      rw [hR]
      exact ⟨_, rfl, q1, q2⟩)
end Go.Proofs.YtebgebgkieglhaaGreatDoor.FieldW
end
section
/- prop: span.New of nothing, slices.Contains, what a file is read as. -/
namespace Go.Proofs.YtebgebgkieglhaaGreatDoor.FieldW
open Go.RowKit Go.Shelf Go.Lib Go.Proofs Go.Proofs.YtebgebgkieglhaaGreatDoorW.PrintWords Go.Proofs.YtebgebgkieglhaaGreatDoorW.PrintLast Go.Proofs.YtebgebgkieglhaaGreatDoorW.PrintMore Go.Proofs.YtebgebgkieglhaaGreatDoor.PRef
set_option linter.unusedVariables false
set_option linter.unusedSimpArgs false

set_option maxHeartbeats 4000000 in
set_option maxRecDepth 100000 in
theorem newS_calls (w : World) : Calls Tryz.prog 78 #[.slice none 0 0] w fun e w' => ∃ g, e = .returned (.tuple #[.pointer (some ⟨g, 0, none⟩), .int .i64 0]) ∧ Go.RowKit.Below w.heap.size w w' ∧ w'.heap[g]? = some (.cells #[.slice none 0 0] 128 (0, 0)) ∧ w.heap.size ≤ g := by
  go_enter Tryz.func78, Tryz.ntmps78
  go_wp2
  go_loopw [4, 13] (fun pv iv wr => pv = .pointer (some ⟨w.heap.size, 0, none⟩) ∧ iv = .int .i64 0 ∧ wr = w.alloc (.cells #[.slice none 0 0] 128)) (fun pv iv wr => 0)
  case atStart => exact ⟨rfl, rfl, rfl⟩
  case round =>
    obtain ⟨rfl, rfl, rfl⟩ := hrel
    go_wp2
    go_ret2
    exact ⟨_, rfl, below_alloc (Go.RowKit.Below.refl _ _) _, heap_alloc_new _ _, Nat.le_refl _⟩
theorem contains_calls (v : Value) (base : Nat) (ok : Nat → Prop) (l : List ByteArray) (x : ByteArray) (w : World) (hR : Kd.R Kd.string 9 w base ok v l) (hl : l.length ≤ 1000) :
    Calls Tryz.prog 53 #[v, .string x] w fun e w' => e = .returned (.bool (Lib.containsS l x)) ∧ w' = w := by
  obtain ⟨A, c, rfl, hlc, hC⟩ := Kd.R_reads hR
  rcases Nat.eq_zero_or_pos l.length with h0 | h0
  · have := List.length_eq_zero_iff.1 h0
    subst this
    exact Any.slices_Contains_string_empty Tryz.containsL A c x w
  · obtain ⟨-, inner, ⟨hlen, hown⟩, -⟩ := hR
    rcases hown with ⟨e, hn⟩ | ⟨g, cap, cur, e, -⟩
    · omega
    · injection e with e1 e2 e3
      subst e1
      have h := Any.slices_Contains_string Tryz.containsL g 0 l.length c l x w (Nat.le_refl _) (by omega) (fun j hj => by
        obtain ⟨ad, e4, hc⟩ := Kd.at_string hC j (by omega) (by omega)
        injection e4 with e4
        subst e4
        rw [show ((j : Int)).toNat = j from by omega] at hc
        rw [Addr.add_lit] at hc
        rw [hc]
        unfold rdOf
        rw [show ((j : Int)).toNat = j from by omega])
      rw [List.take_of_length_le (Nat.le_refl _)] at h
      exact h
/-- A line's span, and its error. -/
def lineS (l : List ByteArray) : USpan × Int := match Go.Proofs.YtebgebgkieglhaaGreatDoor.PU.prop_line.f l with
  | some (a, b, c, e) => (⟨a, b, c⟩, e)
  | none => (⟨0, 0, ⟨#[]⟩⟩, 12)
theorem lineS_eq (l : List ByteArray) (hsz : ∀ x ∈ l, x.size ≤ 1000000) : Go.Proofs.YtebgebgkieglhaaGreatDoor.PU.prop_line.f l = some ((lineS l).1.first, (lineS l).1.last, (lineS l).1.val, (lineS l).2) := by
  have : ∃ t, Go.Proofs.YtebgebgkieglhaaGreatDoor.PU.prop_line.f l = some t := by
    unfold Go.Proofs.YtebgebgkieglhaaGreatDoor.PU.prop_line.f
    by_cases h2 : (l.length : Int) < 2
    · rw [if_pos h2]; exact ⟨_, rfl⟩
    · rw [if_neg h2, if_pos (by omega : (0 : Int) < l.length)]
      obtain ⟨q, hq⟩ : ∃ q, Go.Proofs.YtebgebgkieglhaaGreatDoor.PU.field_Range.f (rdOf ByteArray.empty l 0) = some q := by
        obtain ⟨c, hc⟩ : ∃ c, Go.Proofs.YtebgebgkieglhaaGreatDoor.PlugU.strings_Cut.f (rdOf ByteArray.empty l 0) (⟨#[46, 46]⟩ : ByteArray) = some c := ⟨_, by unfold Go.Proofs.YtebgebgkieglhaaGreatDoor.PlugU.strings_Cut.f; rw [if_pos (rdOf_size l 0 hsz)]⟩
        obtain ⟨p, hp⟩ : ∃ p, Go.Proofs.YtebgebgkieglhaaGreatDoor.PlugU.field_Point.f c.1 = some p := ⟨_, rfl⟩
        obtain ⟨q, hq⟩ : ∃ q, Go.Proofs.YtebgebgkieglhaaGreatDoor.PlugU.field_Point.f c.2.1 = some q := ⟨_, rfl⟩
        unfold Go.Proofs.YtebgebgkieglhaaGreatDoor.PU.field_Range.f
        rw [hc, Option.bind_some, hp, Option.bind_some, hq, Option.bind_some]
        repeat' split
        all_goals exact ⟨_, rfl⟩
      rw [hq, Option.bind_some, if_pos (by omega : (1 : Int) < l.length)]
      repeat' split
      all_goals exact ⟨_, rfl⟩
  obtain ⟨⟨a, b, c, e⟩, ht⟩ := this
  unfold lineS
  rw [ht]
/-- What the lines of a property file are read as. -/
def foldP (vals : List ByteArray) : List (Nat × List ByteArray) → List USpan → Option (List USpan) × Int × Int
  | [], l => (some l, 0, 0)
  | (n, x) :: r, l =>
    if (lineS x).2 = 0 then
      if vals ≠ [] ∧ Lib.containsS vals (lineS x).1.val = false then foldP vals r l
      else match addS l (lineS x).1 with
        | (some l', _) => foldP vals r l'
        | (none, e) => (none, e, n)
    else (none, (lineS x).2, n)
/-- What a property file is read as: the spans, or the error and its line. -/
def parseP (vals : List ByteArray) (b : List UInt8) : Option (List USpan) × Int × Int := foldP vals (linesOf 0 (pieceB 10 ⟨b.toArray⟩)) []
theorem foldP_snoc (vals : List ByteArray) : ∀ (pre : List (Nat × List ByteArray)) (l l1 : List USpan) (r : List (Nat × List ByteArray)), foldP vals pre l = (some l1, 0, 0) → foldP vals (pre ++ r) l = foldP vals r l1
  | [], l, l1, r, h => by
    have : l = l1 := by injection h with h; injection h
    subst this
    rfl
  | (n, x) :: pre, l, l1, r, h => by
    rw [foldP] at h
    rw [List.cons_append, foldP]
    split at h
    · rename_i h0
      rw [if_pos h0]
      split at h
      · rename_i h1
        rw [if_pos h1]
        exact foldP_snoc vals pre _ l1 r h
      · rename_i h1
        rw [if_neg h1]
        cases ha : addS l (lineS x).1 with
        | mk o e =>
          rw [ha] at h
          cases o with
          | none => cases h
          | some l' => exact foldP_snoc vals pre _ l1 r h
    · cases h
theorem addS_some {l l' : List USpan} {s : USpan} {e : Int} (h : addS l s = (some l', e)) : e = 0 ∧ 0 ≤ s.first ∧ s.last ≤ 1114111 ∧ s.first ≤ s.last ∧ s.val.data.toList ≠ [] ∧ hitS l s = false ∧ l' = l.take (ahead (cfS s.first) l) ++ s :: l.drop (ahead (cfS s.first) l) := by
  unfold addS at h
  split at h
  · cases h
  · split at h
    · cases h
    · split at h
      · cases h
      · rename_i h1 h2 h3
        injection h with h4 h5
        injection h4 with h4
        exact ⟨h5.symm, by omega, by omega, by omega, h2, by simpa using h3, h4.symm⟩
theorem addS_none {l : List USpan} {s : USpan} {e : Int} (h : addS l s = (none, e)) : e ≠ 0 := by
  unfold addS at h
  split at h
  · injection h with _ h; omega
  · split at h
    · injection h with _ h; omega
    · split at h
      · injection h with _ h; omega
      · injection h with h _; cases h
theorem ahead_spec {α : Type} (cf : α → Int) (l : List α) : (∀ j (h : j < l.length), j < ahead cf l → cf l[j] < 0) ∧ (∀ (h : ahead cf l < l.length), ¬ cf l[ahead cf l] < 0) := by
  induction l with
  | nil => exact ⟨fun j h => by simp at h, fun h => by simp at h⟩
  | cons x r ih =>
    by_cases hx : cf x < 0
    · have e : ahead cf (x :: r) = ahead cf r + 1 := by
        unfold ahead; rw [List.takeWhile_cons, if_pos (by simpa using hx), List.length_cons]
      rw [e]
      refine ⟨fun j h hj => ?_, fun h => ?_⟩
      · cases j with
        | zero => exact hx
        | succ j => exact ih.1 j (by simpa using h) (by omega)
      · have := ih.2 (by simpa using h)
        simpa using this
    · have e : ahead cf (x :: r) = 0 := by
        unfold ahead; rw [List.takeWhile_cons, if_neg (by simpa using hx)]; rfl
      rw [e]
      exact ⟨fun j h hj => by omega, fun h => hx⟩
theorem addS_rising {l l' : List USpan} {s : USpan} {e : Int} (hS : RisingS l) (h : addS l s = (some l', e)) : RisingS l' := by
  obtain ⟨-, h1, h2, h3, -, h4, rfl⟩ := addS_some h
  obtain ⟨i, hi⟩ : ∃ i, i = ahead (cfS s.first) l := ⟨_, rfl⟩
  obtain ⟨p1, p2⟩ := ahead_spec (cfS s.first) l
  unfold hitS at h4
  rw [← hi] at p1 p2 h4 ⊢
  have hlo : ∀ x ∈ l.take i, x.last < s.first := by
    intro x hx
    obtain ⟨j, hj, rfl⟩ := List.mem_iff_getElem.1 hx
    rw [List.length_take] at hj
    rw [List.getElem_take]
    exact (cfS_neg _ _).1 (p1 j (by omega) (by omega))
  have hhi : ∀ x ∈ l.drop i, s.last < x.first := by
    intro x hx
    obtain ⟨j, hj, rfl⟩ := List.mem_iff_getElem.1 hx
    rw [List.length_drop] at hj
    rw [List.getElem_drop]
    have h0 : i < l.length := by omega
    rw [List.getElem?_eq_getElem h0] at h4
    dsimp only at h4
    have h5 := of_decide_eq_false h4
    rcases Nat.eq_zero_or_pos j with rfl | hj0
    · simp only [Nat.add_zero]; omega
    · have a := List.pairwise_iff_getElem.1 hS.1 i (i + j) h0 (by omega) (by omega)
      have b := hS.2 l[i] (List.getElem_mem h0)
      omega
  refine ⟨?_, ?_⟩
  · rw [List.pairwise_append]
    refine ⟨hS.1.sublist (List.take_sublist _ _), ?_, ?_⟩
    · rw [List.pairwise_cons]
      exact ⟨hhi, hS.1.sublist (List.drop_sublist _ _)⟩
    · intro a ha b hb
      rcases List.mem_cons.1 hb with rfl | hb
      · exact hlo a ha
      · have := hlo a ha; have := hhi b hb; omega
  · intro x hx
    rcases List.mem_append.1 hx with hx | hx
    · exact hS.2 x (List.mem_of_mem_take hx)
    · rcases List.mem_cons.1 hx with rfl | hx
      · exact h3
      · exact hS.2 x (List.mem_of_mem_drop hx)
theorem addS_len {l l' : List USpan} {s : USpan} {e : Int} (h : addS l s = (some l', e)) : l'.length = l.length + 1 := by
  obtain ⟨-, -, -, -, -, -, rfl⟩ := addS_some h
  have := ahead_le (cfS s.first) l
  simp; omega
theorem foldP_rising (vals : List ByteArray) : ∀ (ls : List (Nat × List ByteArray)) (l l1 : List USpan) (e a : Int), RisingS l → foldP vals ls l = (some l1, e, a) → RisingS l1 ∧ l1.length ≤ l.length + ls.length ∧ e = 0 ∧ a = 0
  | [], l, l1, e, a, hS, h => by
    injection h with h1 h2
    injection h1 with h1
    injection h2 with h2 h3
    subst h1 h2 h3
    exact ⟨hS, by simp, rfl, rfl⟩
  | (n, x) :: r, l, l1, e, a, hS, h => by
    rw [foldP] at h
    split at h
    · split at h
      · obtain ⟨a1, a2, a3⟩ := foldP_rising vals r l l1 e a hS h
        exact ⟨a1, by rw [List.length_cons]; omega, a3⟩
      · cases ha : addS l (lineS x).1 with
        | mk o e2 =>
          rw [ha] at h
          cases o with
          | none => cases h
          | some l' =>
            obtain ⟨a1, a2, a3⟩ := foldP_rising vals r l' l1 e a (addS_rising hS ha) h
            have := addS_len ha
            exact ⟨a1, by rw [List.length_cons]; omega, a3⟩
    · cases h
end Go.Proofs.YtebgebgkieglhaaGreatDoor.FieldW
end
