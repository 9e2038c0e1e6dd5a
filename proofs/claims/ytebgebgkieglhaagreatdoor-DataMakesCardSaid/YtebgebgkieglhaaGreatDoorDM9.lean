/- PropB, MapV, ConfA, RowA, RowB, ConfB, DatA, DatB. -/
import Derived.Test.YtebgebgkieglhaaGreatDoorDM8
import Derived.BigRegion
import Derived.Maps.OwnSet
import Derived.Maps.OwnIn
import Derived.DeepKeys4
section
/- prop: Parse. -/
namespace Go.Proofs.YtebgebgkieglhaaGreatDoor.FieldW
open Go.RowKit Go.Shelf Go.Lib Go.Proofs Go.Proofs.YtebgebgkieglhaaGreatDoorW.PrintWords Go.Proofs.YtebgebgkieglhaaGreatDoorW.PrintLast Go.Proofs.YtebgebgkieglhaaGreatDoorW.PrintMore Go.Proofs.YtebgebgkieglhaaGreatDoor.PRef
set_option linter.unusedVariables false
set_option linter.unusedSimpArgs false
attribute [local go_sem] Oper.semAt_some

/-- Which blocks the table may lie in. -/
def okQ (P7 : Nat) (K Z : Nat → Prop) (k : Nat) : Prop := k ≠ P7 ∧ ¬ Z k ∧ ¬ K k
/-- Between two lines. -/
def pI (w : World) (P7 : Nat) (VS : Value) (vals : List ByteArray) (K Z : Nat → Prop) (pre : List (Nat × List ByteArray)) (W : World) : Prop :=
  ∃ l g v, foldP vals pre [] = (some l, 0, 0) ∧ W.heap[w.heap.size]? = some (.cells #[VS] 98 (0, 0)) ∧ W.heap[w.heap.size + 1]? = some (.cells #[.pointer none] 68 (0, 0)) ∧ W.heap[w.heap.size + 1 + 1]? = some (.cells #[.int .i64 0] 28 (0, 0)) ∧ W.heap[w.heap.size + 1 + 1 + 1]? = some (.cells #[.int .i64 0] 3 (0, 0)) ∧
    W.heap[P7]? = some (.cells #[.pointer (some ⟨g, 0, none⟩)] 68 (0, 0)) ∧ W.heap[g]? = some (.cells #[v] 128 (0, 0)) ∧ w.heap.size + 4 ≤ g ∧ okQ P7 K Z g ∧ Kd.R spanK 96 W (w.heap.size + 4) (fun k => k ≠ g ∧ okQ P7 K Z k) v l ∧
    Go.RowKit.Below w.heap.size w W ∧ P7 < W.heap.size ∧ w.heap.size + 4 ≤ P7 ∧ (∀ b, Z b ∨ K b → P7 < b ∧ b < W.heap.size)
theorem okQ_turn {P7 : Nat} {K Z Z' : Nat → Prop} {A B : World} (hz : ∀ b, Z' b → Z b ∨ (A.heap.size ≤ b ∧ b < B.heap.size)) {k : Nat} (h : okQ P7 K Z k) (hk : k < A.heap.size) : okQ P7 K Z' k := ⟨h.1, fun hz' => by
  rcases hz k hz' with h1 | h1
  · exact h.2.1 h1
  · omega, h.2.2⟩
theorem pI_turn {w : World} {P7 : Nat} {VS : Value} {vals : List ByteArray} {K Z Z' : Nat → Prop} {s : List (Nat × List ByteArray)} {A B : World} {row : Option Nat} (h : pI w P7 VS vals K Z s A) (hg : A.grownBy B row) (hr : ∀ r, row = some r → Z r) (hz : ∀ b, Z' b → Z b ∨ (A.heap.size ≤ b ∧ b < B.heap.size)) : pI w P7 VS vals K Z' s B := by
  obtain ⟨l, g, v, h1, h2, h3, h4, h5, h6, h7, h8, h9, hR, hB, hP, hQ, hZ⟩ := h
  have keep : ∀ b, b < A.heap.size → (∀ r, row = some r → b ≠ r) → B.heap[b]? = A.heap[b]? := fun b hb hne => hg.block b hb (fun e => hne b e.symm rfl)
  have low : ∀ b, b ≤ P7 → B.heap[b]? = A.heap[b]? := fun b hb => keep b (by omega) (fun r e e2 => by have := hZ r (.inl (hr r e)); omega)
  have hsz := hg.size
  refine ⟨l, g, v, h1, (low _ (by omega)).trans h2, (low _ (by omega)).trans h3, (low _ (by omega)).trans h4, (low _ (by omega)).trans h5, (low _ (by omega)).trans h6, (keep g (blk_lt h7) (fun r e e2 => h9.2.1 (e2 ▸ hr r e))).trans h7, h8, okQ_turn hz h9 (blk_lt h7), ?_,
    ⟨hg.os.trans hB.os, hg.tape.trans hB.tape, hg.output.trans hB.output, Nat.le_trans hB.size hsz, fun k hk => (low k (by omega)).trans (hB.block k hk)⟩, by omega, hQ, fun b hb => ?_⟩
  · exact Kd.R_mono (Kd.R_step (Kd.R_bound hR) (fun k hk hlt => keep k hlt (fun r e e2 => hk.1.2.2.1 (e2 ▸ hr r e)))) (fun k hk => ⟨hk.1.1, okQ_turn hz hk.1.2 hk.2.2.1⟩)
  · rcases hb with hb | hb
    · rcases hz b hb with h | h
      · have := hZ b (.inl h); omega
      · omega
    · have := hZ b (.inr hb); omega
theorem stop3 {w W W3 : World} {P7 : Nat} {K Z : Nat → Prop} {t n : Int} (hB3 : Go.RowKit.Below w.heap.size w W3) (hb3 : ∀ b, P7 < b → b < W.heap.size → W3.heap[b]? = W.heap[b]?) (dQ : w.heap.size + 4 ≤ P7) (dP : P7 < W.heap.size) (dZ : ∀ b, Z b ∨ K b → P7 < b ∧ b < W.heap.size)
    (k1 : W3.heap[w.heap.size + 1]? = some (.cells #[.pointer none] 68 (0, 0))) (k2 : W3.heap[w.heap.size + 1 + 1]? = some (.cells #[.int .i64 0] 28 (0, 0))) (k3 : W3.heap[w.heap.size + 1 + 1 + 1]? = some (.cells #[.int .i64 0] 3 (0, 0))) :
    (∀ b, Z b ∨ K b → (((W3.setCell ⟨w.heap.size + 1, 0, none⟩ (.pointer none)).setCell ⟨w.heap.size + 1 + 1, 0, none⟩ (.int .i64 t)).setCell ⟨w.heap.size + 1 + 1 + 1, 0, none⟩ (.int .i64 n)).drew.heap[b]? = W.heap[b]?) ∧
    (((W3.setCell ⟨w.heap.size + 1, 0, none⟩ (.pointer none)).setCell ⟨w.heap.size + 1 + 1, 0, none⟩ (.int .i64 t)).setCell ⟨w.heap.size + 1 + 1 + 1, 0, none⟩ (.int .i64 n)).drew.heap[w.heap.size + 1]? = some (.cells #[.pointer none] 68 (0, 0)) ∧
    (((W3.setCell ⟨w.heap.size + 1, 0, none⟩ (.pointer none)).setCell ⟨w.heap.size + 1 + 1, 0, none⟩ (.int .i64 t)).setCell ⟨w.heap.size + 1 + 1 + 1, 0, none⟩ (.int .i64 n)).drew.heap[w.heap.size + 1 + 1]? = some (.cells #[.int .i64 t] 28 (0, 0)) ∧
    (((W3.setCell ⟨w.heap.size + 1, 0, none⟩ (.pointer none)).setCell ⟨w.heap.size + 1 + 1, 0, none⟩ (.int .i64 t)).setCell ⟨w.heap.size + 1 + 1 + 1, 0, none⟩ (.int .i64 n)).drew.heap[w.heap.size + 1 + 1 + 1]? = some (.cells #[.int .i64 n] 3 (0, 0)) ∧
    Go.RowKit.Below w.heap.size w (((W3.setCell ⟨w.heap.size + 1, 0, none⟩ (.pointer none)).setCell ⟨w.heap.size + 1 + 1, 0, none⟩ (.int .i64 t)).setCell ⟨w.heap.size + 1 + 1 + 1, 0, none⟩ (.int .i64 n)).drew := by
  obtain ⟨j1, j2, j3, jf⟩ := three_cells (a' := .pointer none) (b' := .int .i64 t) (c' := .int .i64 n) k1 k2 k3
  refine ⟨fun b_ hb_ => ?_, j1, j2, j3, below_drew1 (((hB3.setCell (p := ⟨w.heap.size + 1, 0, none⟩) (by show w.heap.size ≤ w.heap.size + 1; omega) _).setCell (p := ⟨w.heap.size + 1 + 1, 0, none⟩) (by show w.heap.size ≤ w.heap.size + 1 + 1; omega) _).setCell (p := ⟨w.heap.size + 1 + 1 + 1, 0, none⟩) (by show w.heap.size ≤ w.heap.size + 1 + 1 + 1; omega) _)⟩
  have := dZ b_ hb_
  exact (jf b_ (by omega) (by omega) (by omega)).trans (hb3 b_ this.1 this.2)
theorem pI_skip {w W W3 : World} {P7 : Nat} {VS : Value} {vals : List ByteArray} {K Z : Nat → Prop} {pre pre' : List (Nat × List ByteArray)} (hI : pI w P7 VS vals K Z pre W) (hb3 : Go.RowKit.Below W.heap.size W W3) (hf : ∀ l, foldP vals pre [] = (some l, 0, 0) → foldP vals pre' [] = (some l, 0, 0)) :
    KeepZ (fun b => Z b ∨ K b) W W3 ∧ Go.RowKit.Below w.heap.size W W3 ∧ pI w P7 VS vals K Z pre' W3 := by
  obtain ⟨l, g, v, h1, h2, h3, h4, h5, h6, h7, h8, h9, hR, hB, hP, hQ, hZ⟩ := hI
  have F : ∀ k o, W.heap[k]? = some o → W3.heap[k]? = some o := fun k o h => (hb3.block _ (Array.getElem?_eq_some_iff.1 h).1).trans h
  exact ⟨fun b hb => hb3.block _ (hZ b hb).2, hb3.mono hB.size, l, g, v, hf l h1, F _ _ h2, F _ _ h3, F _ _ h4, F _ _ h5, F _ _ h6, F _ _ h7, h8, h9, Kd.R_below hR hb3, hB.trans (hb3.mono hB.size), Nat.lt_of_lt_of_le hP hb3.size, hQ, fun b hb => ⟨(hZ b hb).1, Nat.lt_of_lt_of_le (hZ b hb).2 hb3.size⟩⟩
theorem pI_next {w W W3 w4 : World} {P7 g6 : Nat} {VS : Value} {vals : List ByteArray} {K Z : Nat → Prop} {pre pre' : List (Nat × List ByteArray)} {l' : List USpan} (hI : pI w P7 VS vals K Z pre W) (hb3 : Go.RowKit.Below W.heap.size W W3) (hb4 : Go.RowKit.Below W3.heap.size W3 w4) (hT : STab w4 W3.heap.size g6 l') (hf : foldP vals pre' [] = (some l', 0, 0)) :
    KeepZ (fun b => Z b ∨ K b) W (w4.setCell ⟨P7, 0, none⟩ (.pointer (some ⟨g6, 0, none⟩))) ∧ Go.RowKit.Below w.heap.size W (w4.setCell ⟨P7, 0, none⟩ (.pointer (some ⟨g6, 0, none⟩))) ∧ pI w P7 VS vals K Z pre' (w4.setCell ⟨P7, 0, none⟩ (.pointer (some ⟨g6, 0, none⟩))) := by
  obtain ⟨l, g, v, h1, h2, h3, h4, h5, h6, h7, h8, h9, hR, hB, hP, hQ, hZ⟩ := hI
  obtain ⟨v6, t1, t2, t3⟩ := hT
  have hb := hb3.trans (hb4.mono hb3.size)
  have h3s := hb3.size
  have F : ∀ k o, W.heap[k]? = some o → k ≠ P7 → (w4.setCell ⟨P7, 0, none⟩ (.pointer (some ⟨g6, 0, none⟩))).heap[k]? = some o := fun k o h hk => (Go.RowKit.Below.heap_setCell _ ⟨P7, 0, none⟩ _ k hk).trans ((hb.block _ (Array.getElem?_eq_some_iff.1 h).1).trans h)
  have bz : Go.RowKit.Below w.heap.size W (w4.setCell ⟨P7, 0, none⟩ (.pointer (some ⟨g6, 0, none⟩))) := (hb.mono hB.size).setCell (p := ⟨P7, 0, none⟩) (by show w.heap.size ≤ P7; omega) _
  refine ⟨fun b hb' => (Go.RowKit.Below.heap_setCell _ ⟨P7, 0, none⟩ _ b (by have := hZ b hb'; show b ≠ P7; omega)).trans (hb.block _ (hZ b hb').2), bz, l', g6, v6, hf, F _ _ h2 (by omega), F _ _ h3 (by omega), F _ _ h4 (by omega), F _ _ h5 (by omega),
    blk_set ((hb.block _ hP).trans h6) 0 _, (Go.RowKit.Below.heap_setCell _ ⟨P7, 0, none⟩ _ g6 (by show g6 ≠ P7; omega)).trans t1, by omega, ⟨by omega, (fun hz => by have := hZ g6 (.inl hz); omega), (fun hz => by have := hZ g6 (.inr hz); omega)⟩, ?_, hB.trans bz, Nat.lt_of_lt_of_le hP bz.size, hQ, fun b hb' => ⟨(hZ b hb').1, Nat.lt_of_lt_of_le (hZ b hb').2 bz.size⟩⟩
  refine Kd.R_lower (Kd.R_mono (Kd.R_far (p := ⟨P7, 0, none⟩) (Kd.R_bound t3) (fun k hk e => by have := hk.2.1; have e' : k = P7 := e; omega) _) (fun k hk => ⟨hk.1, ?_, ?_, ?_⟩)) (by omega)
  · have := hk.2.1; omega
  · intro hz; have := hk.2.1; have := hZ k (.inl hz); omega
  · intro hz; have := hk.2.1; have := hZ k (.inr hz); omega
theorem results_threeP {fn : Func} {ty : TypeId} {e : TypeId} (h : fn.results = #[.cell 4 ty, .cell 5 28, .cell 6 3]) (hty : Tryz.prog.underlying ty = some (.pointer e)) (tmps : Array Value) (w : World) (a b c : Addr) (v : Option Addr) (n m : Int)
    (ha : tmps.getD 4 undef = .pointer (some a)) (hb : tmps.getD 5 undef = .pointer (some b)) (hc : tmps.getD 6 undef = .pointer (some c)) (hv : w.cell? a = some (.pointer v)) (hn : w.cell? b = some (.int .i64 n)) (hm : w.cell? c = some (.int .i64 m)) :
    (results fn tmps).run Tryz.prog w = .ok (.tuple #[.pointer v, .int .i64 n, .int .i64 m]) w := by
  have ha' : tmps[4]?.getD undef = .pointer (some a) := by simpa using ha
  have hb' : tmps[5]?.getD undef = .pointer (some b) := by simpa using hb
  have hc' : tmps[6]?.getD undef = .pointer (some c) := by simpa using hc
  have hu2 := Tryz.underlying28
  have hu3 := Tryz.underlying3
  have hag : ∀ w, (isAgg ty).run Tryz.prog w = .ok false w := run_isAgg_plain hty rfl
  simp [results, h, ha', hb', hc', asAddr]
  go_simp
set_option maxHeartbeats 4000000 in
set_option maxRecDepth 100000 in
theorem parseP_calls (A : Option Addr) (c : Nat) (b : List UInt8) (V : Value) (vbase : Nat) (vok : Nat → Prop) (vals : List ByteArray) (w : World) (hr : Kd.C (Kd.int .u8) w A b.length (numB b)) (hl : b.length ≤ 100000) (hV : Kd.R Kd.string 9 w vbase vok V vals) (hvl : vals.length ≤ 1000) (T : Tabs w) :
    Calls Tryz.prog 58 #[.slice A b.length c, V] w fun e w' => ∃ p, e = .returned (.tuple #[p, .int .i64 (parseP vals b).2.1, .int .i64 (parseP vals b).2.2]) ∧ Go.RowKit.Below w.heap.size w w' ∧ resS w.heap.size (parseP vals b).1 p w' := by
  obtain ⟨m, hm⟩ := T.most
  obtain ⟨AV, cv, rfl⟩ := Kd.R_slice hV
  refine (callsIn_wide (n := 4)).1 ?_
  refine callsIn_of_wp_marks Tryz.func58 rfl trivial ?_ rfl
  simp only [Tryz.ntmps58, List.size_toArray, List.length_cons, List.length_nil, Nat.reduceAdd, Nat.reduceSub, Array.replicate_succ, Array.replicate_zero, List.push_toArray, List.append_toArray, List.nil_append, List.cons_append]
  refine wpIn_wide.2 ?_
  have HR := Aside0.mk (And.intro hr (And.intro hl (And.intro hm (And.intro hV hvl))))
  clear hr hl hm hV hvl
  go_wp2_with (go_at_call 78; refine Aside0.out ?_)
  refine Aside0.mk ?_
  obtain ⟨W0, hW0⟩ : ∃ W0, W0 = (((w.alloc (.cells #[.slice AV vals.length cv] 98)).alloc (.cells #[.pointer none] 68)).alloc (.cells #[.int .i64 0] 28)).alloc (.cells #[.int .i64 0] 3) := ⟨_, rfl⟩
  rw [← hW0]
  have n0 := heap_alloc_new w (.cells #[.slice AV vals.length cv] 98)
  have n1 := heap_alloc_new (w.alloc (.cells #[.slice AV vals.length cv] 98)) (.cells #[.pointer none] 68)
  have n2 := heap_alloc_new ((w.alloc (.cells #[.slice AV vals.length cv] 98)).alloc (.cells #[.pointer none] 68)) (.cells #[.int .i64 0] 28)
  have n3 := heap_alloc_new (((w.alloc (.cells #[.slice AV vals.length cv] 98)).alloc (.cells #[.pointer none] 68)).alloc (.cells #[.int .i64 0] 28)) (.cells #[.int .i64 0] 3)
  rw [World.size_alloc] at n1
  rw [World.size_alloc, World.size_alloc] at n2
  rw [World.size_alloc, World.size_alloc, World.size_alloc] at n3
  have up : ∀ (W : World) (o : Obj) (k : Nat) (u : Obj), W.heap[k]? = some u → (W.alloc o).heap[k]? = some u := fun W o k u h => (Go.RowKit.Below.heap_alloc _ _ _ (Array.getElem?_eq_some_iff.1 h).1).trans h
  have q0 : W0.heap[w.heap.size]? = some (.cells #[.slice AV vals.length cv] 98 (0, 0)) := by rw [hW0]; exact up _ _ _ _ (up _ _ _ _ (up _ _ _ _ n0))
  have q1 : W0.heap[w.heap.size + 1]? = some (.cells #[.pointer none] 68 (0, 0)) := by rw [hW0]; exact up _ _ _ _ (up _ _ _ _ n1)
  have q2 : W0.heap[w.heap.size + 1 + 1]? = some (.cells #[.int .i64 0] 28 (0, 0)) := by rw [hW0]; exact up _ _ _ _ n2
  have q3 : W0.heap[w.heap.size + 1 + 1 + 1]? = some (.cells #[.int .i64 0] 3 (0, 0)) := by rw [hW0]; exact n3
  have hs0 : W0.heap.size = w.heap.size + 4 := by rw [hW0]; simp
  have hb0 : Go.RowKit.Below w.heap.size w W0 := by rw [hW0]; exact below_alloc (below_alloc (below_alloc (below_alloc (Go.RowKit.Below.refl _ _) _) _) _) _
  have HW0 := Aside0.mk (And.intro q0 (And.intro q1 (And.intro q2 (And.intro q3 (And.intro hs0 hb0)))))
  clear hW0 n0 n1 n2 n3 up q0 q1 q2 q3 hs0 hb0
  refine (newS_calls W0).mono ?_
  rintro e W1 ⟨g0, rfl, hn1, hn2⟩
  have HN := Aside0.mk (And.intro hn1 hn2)
  clear hn1 hn2
  go_wp2_with (go_at_call 76; refine Aside0.out ?_)
  refine Aside0.mk ?_
  obtain ⟨P7, hP7⟩ : ∃ P7, P7 = W1.heap.size := ⟨_, rfl⟩
  obtain ⟨W2, hW2⟩ : ∃ W2, W2 = W1.alloc (.cells #[.pointer (some ⟨g0, 0, none⟩)] 68) := ⟨_, rfl⟩
  rw [← hW2, ← hP7]
  have b12 : Go.RowKit.Below W1.heap.size W1 W2 := by rw [hW2]; exact below_alloc (Go.RowKit.Below.refl _ _) _
  have p7 : W2.heap[P7]? = some (.cells #[.pointer (some ⟨g0, 0, none⟩)] 68 (0, 0)) := by rw [hW2, hP7]; exact heap_alloc_new _ _
  have b01 := HN.out.1.trans (b12.mono HN.out.1.size)
  have hsW2 : P7 < W2.heap.size := blk_lt p7
  have hbW2 := HW0.out.2.2.2.2.2.trans (b01.mono HW0.out.2.2.2.2.2.size)
  have hs0 := HW0.out.2.2.2.2.1
  have hP74 : w.heap.size + 4 ≤ P7 := by have := HN.out.1.size; omega
  refine (lines_calls A c b W2 m (Kd.C_below HR.out.1 hbW2) (by have := HR.out.2.1; omega) ((hbW2.cell (p := ⟨1, 0, none⟩) (lt_of_cell HR.out.2.2.1)).trans HR.out.2.2.1)).mono ?_
  rintro e Wr ⟨Bc, B, rfl, g1, g2, g3, g4, hbr⟩
  obtain ⟨ls, hls⟩ : ∃ ls, ls = pieceB 10 ⟨b.toArray⟩ := ⟨_, rfl⟩
  rw [← hls] at g3 g4
  have hsz0 : (⟨b.toArray⟩ : ByteArray).size = b.length := by show b.toArray.size = _; simp
  have hll : ls.length ≤ 100001 := by
    have h1 := cutC_len 10 (⟨b.toArray⟩ : ByteArray).data.toList
    have h2 := HR.out.2.1
    rw [hls]
    simp [pieceB] at h1 ⊢
    omega
  have hlsz : ∀ x ∈ ls, x.size ≤ 1000000 := fun x hx => by
    have h1 := pieceB_size 10 _ x (hls ▸ hx)
    have h2 := HR.out.2.1
    omega
  have mcell : ∀ W, Go.RowKit.Below w.heap.size w W → W.cell? ⟨1, 0, none⟩ = some (.int .i64 m) := fun W h => (h.cell (p := ⟨1, 0, none⟩) (lt_of_cell HR.out.2.2.1)).trans HR.out.2.2.1
  have hbw : Go.RowKit.Below w.heap.size w Wr := hbW2.trans (hbr.mono hbW2.size)
  have hseq := lines_own (w := Wr) (Bc := Bc) (B := B) (n0 := w.heap.size) (m := m) (ls := ls) (mcell Wr hbw) (by have := T.size; omega) hbw.size g3 g4 (by omega) hlsz
  have tr : ∀ k u, W0.heap[k]? = some u → Wr.heap[k]? = some u := fun k u h => (hbr.block _ (by have := (Array.getElem?_eq_some_iff.1 h).1; have := b01.size; omega)).trans ((b01.block _ (Array.getElem?_eq_some_iff.1 h).1).trans h)
  have r0 := tr _ _ HW0.out.1
  have r1 := tr _ _ HW0.out.2.1
  have r2 := tr _ _ HW0.out.2.2.1
  have r3 := tr _ _ HW0.out.2.2.2.1
  have r7 := (hbr.block _ (blk_lt p7)).trans p7
  have hg0 : g0 < P7 := by rw [hP7]; exact blk_lt HN.out.2.1
  have st0 : Wr.heap[g0]? = some (.cells #[.slice none 0 0] 128 (0, 0)) := (hbr.block _ (by omega)).trans ((b12.block _ (by omega)).trans HN.out.2.1)
  have hg4 : w.heap.size + 4 ≤ g0 := by have := HN.out.2.2; omega
  have HQ := Aside0.mk (And.intro r0 (And.intro r1 (And.intro r2 (And.intro r3 (And.intro r7 (And.intro st0 (And.intro hbw (And.intro hbr.size (And.intro hg4 (And.intro hg0 (And.intro hP74 hsW2)))))))))))
  have HS := Aside0.mk (And.intro hseq (And.intro g1 (And.intro g2 (And.intro (blk_lt g3) (blk_lt g4)))))
  have HLS := Aside0.mk (And.intro hls (And.intro hll hlsz))
  clear hP7 hW2 b12 p7 b01 hsW2 hbW2 hs0 hP74 hbr hls hll hlsz mcell hbw hseq tr r0 r1 r2 r3 r7 st0 g1 g2 g3 g4 hg0 HN HW0
  go_wp2
  refine (wpIn_wide (n := 4)).1 ?_
  have hsr : P7 < Wr.heap.size := Nat.lt_of_lt_of_le HQ.out.2.2.2.2.2.2.2.2.2.2.2 HQ.out.2.2.2.2.2.2.2.1
  have hP4 : w.heap.size + 4 ≤ P7 := HQ.out.2.2.2.2.2.2.2.2.2.2.1
  refine range_E (n := 4) (by omega) (gf := 95) (lb := #[.pointer (some ⟨Bc, 0, none⟩)]) rfl (enters_of Tryz.func95 (by kernel_rfl) rfl) (lineE_abides w.heap.size) HS.out.1 (Go.RowKit.Below.refl _ _) (by omega) (fun b hb => hb.elim) (fun b hb => by rcases hb with rfl | rfl; exact HS.out.2.2.2.1; exact HS.out.2.2.2.2) (fun Z x us W h => by obtain ⟨v, rfl, _⟩ := h; rfl)
    (pI w P7 (.slice AV vals.length cv) vals (fun b => b = Bc ∨ b = B))
    (fun Z q W => ∃ Lv vl, q.2.2 = { tmps := #[.slice A b.length c, .slice AV vals.length cv, undef, .pointer (some ⟨w.heap.size, 0, none⟩), .pointer (some ⟨w.heap.size + 1, 0, none⟩), .pointer (some ⟨w.heap.size + 1 + 1, 0, none⟩), .pointer (some ⟨w.heap.size + 1 + 1 + 1, 0, none⟩), .pointer (some ⟨P7, 0, none⟩), .int .i64 0, .pointer (some ⟨Lv, 0, none⟩), undef, undef, .tuple #[.pointer (some ⟨g0, 0, none⟩), .int .i64 0], .tuple #[.pointer (some ⟨g0, 0, none⟩), .int .i64 0], .pointer (some ⟨g0, 0, none⟩), .int .i64 0, .slice A b.length c, .func (.func 95) #[] #[.pointer (some ⟨Bc, 0, none⟩)], .agg #[.int .i64 (q.2.1.1 : Int), vl], undef, undef, undef, undef, undef, undef, undef, undef, undef, undef, undef, undef, undef, undef, undef, undef, undef, undef, undef, undef, undef, undef, undef, undef, undef, undef, undef, undef, undef, undef, undef, undef, undef], defers := [] } ∧ pI w P7 (.slice AV vals.length cv) vals (fun b => b = Bc ∨ b = B) Z q.1 W ∧ uL w (fun b => b = Bc ∨ b = B) Z q.2.1 Lv vl W ∧ P7 < Lv ∧ Lv ≠ Bc ∧ Lv ≠ B)
    (fun cd q W => cd = Code.ret ∧ ∃ t : Int × Int, t.1 ≠ 0 ∧ foldP vals (linesOf 0 ls) [] = (none, t.1, t.2) ∧ W.heap[w.heap.size + 1]? = some (.cells #[.pointer none] 68 (0, 0)) ∧ W.heap[w.heap.size + 1 + 1]? = some (.cells #[.int .i64 t.1] 28 (0, 0)) ∧ W.heap[w.heap.size + 1 + 1 + 1]? = some (.cells #[.int .i64 t.2] 3 (0, 0)) ∧ Go.RowKit.Below w.heap.size w W)
    (fun Z Z' q A B row h hg hr hz => pI_turn h hg hr hz) ?ax ?ix ?h0 ?assign ?body ?done ?stop
  case ax =>
    rintro Z Z' ⟨pre, x, a'⟩ A B row ⟨Lv, vl, e, h, h2, h3⟩ hg hr hz
    exact ⟨Lv, vl, e, pI_turn h hg hr hz, uL_turn h2 hg hr hz, h3⟩
  case ix =>
    rintro cc q W lp r o hlp hl ⟨h1, t, h2, h3, h4, h5, h6, h7⟩
    exact ⟨h1, t, h2, h3, (World.putObj_heap_other (by omega)).trans h4, (World.putObj_heap_other (by omega)).trans h5, (World.putObj_heap_other (by omega)).trans h6, h7.trans (below_put _ _ _ _ (by omega))⟩
  case h0 =>
    obtain ⟨r0, r1, r2, r3, r7, s1, hbw, hbr, hg4, hg0, hP74, hsW2⟩ := HQ.out
    have hS := HS.out
    refine ⟨[], g0, .slice none 0 0, rfl, r0, r1, r2, r3, r7, s1, by omega, ⟨by omega, (fun h => h), (fun h => by rcases h with h | h; have := hS.2.1; omega; have := hS.2.2.1; omega)⟩, Kd.R_nil _ _ _ _ _, hbw, hsr, hP4, fun b hb => ?_⟩
    · rcases hb with hb | hb | hb
      · exact hb.elim
      · rw [hb]; exact ⟨by have := hS.2.1; omega, hS.2.2.2.1⟩
      · rw [hb]; exact ⟨by have := hS.2.2.1; omega, hS.2.2.2.2⟩
  case assign =>
    rintro lp Z pre x r us W Kc hI hx2 ⟨vl, rfl, hvl⟩ hK2
    have HI := Aside0.mk (And.intro hI hvl)
    clear hI hx2 hvl
    obtain ⟨A5, c5, rfl⟩ := Kd.R_slice HI.out.2
    gi_wp2
    obtain ⟨l5, g5, v5, f1, d0, d1, d2, d3, d7, dg, dgl, dok, dR, dB, dP, dQ, dZ⟩ := HI.out.1
    refine hK2 _ _ (fun b hb => Go.RowKit.Below.heap_alloc _ _ _ (dZ b hb).2) (below_alloc (Go.RowKit.Below.refl _ _) _ |>.mono dB.size) ⟨W.heap.size, _, rfl, pI_turn HI.out.1 (grown_alloc W _) (fun r e => by cases e) (fun b hb => .inl hb), ⟨heap_alloc_new _ _, (fun h => by have := (dZ _ (.inl h)).2; omega), Kd.R_alloc HI.out.2 _⟩, dP, (fun h => by have := (dZ Bc (.inr (.inl rfl))).2; omega), (fun h => by have := (dZ B (.inr (.inr rfl))).2; omega)⟩
  case body =>
    rintro lp Z pre x r a' W ⟨Lv, vl, ha, hI, hL, h5, hnb, hnB⟩ hx2
    dsimp only at ha hI hL
    subst ha
    have HI0 := Aside0.mk hI
    obtain ⟨l5, g5, v5, f1, d0, d1, d2, d3, d7, dg, dgl, dok, dR, dB, dP, dQ, dZ⟩ := hI
    obtain ⟨A5, c5, rfl⟩ := Kd.R_slice hL.2.2
    have hpre : pre.length ≤ 100001 := by
      have h1 := congrArg List.length hx2
      have h2 := linesOf_len ls 0
      have h3 := HLS.out.2.1
      simp at h1
      omega
    have hris := foldP_rising vals pre [] l5 0 0 ⟨List.Pairwise.nil, fun s h => by cases h⟩ f1
    have hl5 : l5.length ≤ 100001 := by have := hris.2.1; simp at this; omega
    have hfs : ∀ y ∈ x.2, y.size ≤ 1000000 := fun y hy => linesOf_size ls 0 1000000 HLS.out.2.2 x (by rw [hx2]; simp) y hy
    obtain ⟨-, hc5, hC5⟩ : ∃ _ : True, x.2.length ≤ c5 ∧ Kd.C Kd.string W A5 x.2.length x.2 := by
      obtain ⟨A', c', he, h1, h2⟩ := Kd.R_reads hL.2.2
      injection he with e1 e2 e3
      subst e1 e3
      exact ⟨trivial, h1, h2⟩
    have CT := Go.Proofs.YtebgebgkieglhaaGreatDoor.PU.prop_line.calls A5 c5 x.2 _ _ _ _ W hC5 hc5 (lineS_eq x.2 hfs) (T.below dB)
    have hfold := foldP_snoc vals pre [] l5 (x :: r) f1
    have hfold1 := foldP_snoc vals pre [] l5 [x] f1
    rw [← hx2] at hfold
    obtain ⟨n, xs⟩ := x
    rw [foldP] at hfold hfold1
    obtain ⟨t, ht⟩ : ∃ t, t = lineS xs := ⟨_, rfl⟩
    dsimp only at CT
    rw [← ht] at CT hfold hfold1
    obtain ⟨s, t2⟩ := t
    dsimp only at CT hfold hfold1
    have hVW := Kd.R_below HR.out.2.2.2.1 dB
    have e0 : W.cell? ⟨w.heap.size, 0, none⟩ = some _ := (blk_cell d0 0).trans rfl
    have e7 : W.cell? ⟨P7, 0, none⟩ = some _ := (blk_cell d7 0).trans rfl
    have l0 : W.cell? ⟨Lv, 0, none⟩ = some _ := (blk_cell hL.1 0).trans rfl
    have l1 : W.cell? ⟨Lv, 1, none⟩ = some _ := (blk_cell hL.1 1).trans rfl
    have hLl := blk_lt hL.1
    have HT2 := Aside0.mk ht
    have HLV := Aside0.mk hL.1
    have HCT := Aside0.mk CT
    have HX := Aside0.mk (And.intro hx2 (And.intro hfold (And.intro hfold1 (And.intro hris hVW))))
    have HD := Aside0.mk (And.intro d0 (And.intro d1 (And.intro d2 (And.intro d3 (And.intro d7 (And.intro dg (And.intro dgl (And.intro dok (And.intro dR (And.intro dB (And.intro dP (And.intro dQ dZ))))))))))))
    clear CT hx2 hfold hfold1 hris hVW f1 d0 d1 d2 d3 d7 dg dgl dok dR dB dP dQ dZ hfs ht hL hC5
    by_cases he : t2 = 0
    · have heb : (t2 != 0) = false := bne_eq_false_iff_eq.2 he
      have hris := HX.out.2.2.2.1
      have CA := Aside0.mk (fun (W' : World) (hW' : Go.RowKit.Below W.heap.size W W') => add_calls (w.heap.size + 4) g5 l5 s W' (STab.below ⟨v5, HD.out.2.2.2.2.2.1, HD.out.2.2.2.2.2.2.1, Kd.R_mono HD.out.2.2.2.2.2.2.2.2.1 (fun k hk => hk.1)⟩ hW') (by omega) hris.1)
      have hvl : vals.length ≤ 1000 := HR.out.2.2.2.2
      clear hris
      cases hcn : Lib.containsS vals s.val with
      | true =>
        have CC := Aside0.mk (fun (W' : World) (hW' : Go.RowKit.Below W.heap.size W W') => by have h := contains_calls (.slice AV vals.length cv) vbase vok vals s.val W' (Kd.R_below HX.out.2.2.2.2 hW') hvl; rw [hcn] at h; exact h)
        have hno : ¬ (vals ≠ [] ∧ Lib.containsS vals s.val = false) := fun h => by rw [hcn] at h; cases h.2
        have hgv : (0 : Int) < (vals.length : Int) := by
          cases vals with
          | nil => exact absurd ((Lib.containsS_iff _ _).1 hcn) (by simp)
          | cons a r => simp only [List.length_cons]; omega
        have HCN := Aside0.mk hcn
        clear hcn
        cases hadd : addS l5 s with
        | mk o e2 =>
          have CA2 := Aside0.mk (fun (W' : World) (hW' : Go.RowKit.Below W.heap.size W W') => by have h := CA.out W' hW'; rw [hadd] at h; exact h)
          cases o with
          | some l' =>
            have he2 : e2 = 0 := (addS_some hadd).1
            subst he2
            gi_wp2_with (first | (refine ⟨trivial, ?_⟩; gi_at_call 79; refine (CallsIn.inRound lp (callsIn_wide.2 HCT.out)).mono ?_; rintro e2 w2 ⟨rfl, hb2⟩; have hb3 : Go.RowKit.Below W.heap.size W (w2.alloc (.cells #[.int .i64 s.first, .int .i64 s.last, .string s.val] 96)) := below_alloc hb2 _; have F : ∀ k cs ty, W.heap[k]? = some (Obj.cells cs ty (0, 0)) → (w2.alloc (.cells #[.int .i64 s.first, .int .i64 s.last, .string s.val] 96)).heap[k]? = some (Obj.cells cs ty (0, 0)) := (fun k cs ty h => (hb3.block _ (blk_lt h)).trans h); have k1 := F _ _ _ HD.out.2.1; have k2 := F _ _ _ HD.out.2.2.1; have k3 := F _ _ _ HD.out.2.2.2.1; have y0 : (w2.alloc (.cells #[.int .i64 s.first, .int .i64 s.last, .string s.val] 96)).cell? ⟨w.heap.size, 0, none⟩ = some _ := (blk_cell (F _ _ _ HD.out.1) 0).trans rfl; have y1 : (w2.alloc (.cells #[.int .i64 s.first, .int .i64 s.last, .string s.val] 96)).cell? ⟨w.heap.size + 1, 0, none⟩ = some _ := (blk_cell k1 0).trans rfl; have y2 : (w2.alloc (.cells #[.int .i64 s.first, .int .i64 s.last, .string s.val] 96)).cell? ⟨w.heap.size + 1 + 1, 0, none⟩ = some _ := (blk_cell k2 0).trans rfl; have y3 : (w2.alloc (.cells #[.int .i64 s.first, .int .i64 s.last, .string s.val] 96)).cell? ⟨w.heap.size + 1 + 1 + 1, 0, none⟩ = some _ := (blk_cell k3 0).trans rfl; have y7 : (w2.alloc (.cells #[.int .i64 s.first, .int .i64 s.last, .string s.val] 96)).cell? ⟨P7, 0, none⟩ = some _ := (blk_cell (F _ _ _ HD.out.2.2.2.2.1) 0).trans rfl; have z1 := blk_frozen k1 0; have z2 := blk_frozen k2 0; have z3 := blk_frozen k3 0; have m0 := cell_up hb3 l0; have H2 := Aside0.mk (And.intro hb2 (And.intro hb3 (And.intro k1 (And.intro k2 k3)))); clear hb2 hb3 F k1 k2 k3) | (refine ⟨trivial, ?_⟩; gi_at_call 53; refine (CallsIn.inRound lp (callsIn_wide.2 (CC.out _ H2.out.2.1))).mono ?_; rintro e3 w3 ⟨rfl, rfl⟩) | (refine ⟨trivial, ?_⟩; gi_at_call 80; refine (CallsIn.inRound lp (callsIn_wide.2 (CA2.out _ H2.out.2.1))).mono ?_; rintro e4 w4 ⟨p4, rfl, hb4, g6, rfl, ht6⟩; have h7 := (hb4.block _ (by rw [World.size_alloc]; have := H2.out.1.size; have := HD.out.2.2.2.2.2.2.2.2.2.2.1; omega)).trans ((H2.out.2.1.block _ HD.out.2.2.2.2.2.2.2.2.2.2.1).trans HD.out.2.2.2.2.1); have c7 : w4.cell? ⟨P7, 0, none⟩ = some _ := (blk_cell h7 0).trans rfl; have f7 := blk_frozen h7 0; have H4 := Aside0.mk (And.intro hb4 ht6); clear hb4 ht6 h7))
            exact pI_next HI0.out H2.out.2.1 H4.out.1 H4.out.2 (by have h := HX.out.2.2.1; rw [if_pos he, if_neg hno, hadd] at h; exact h)
          | none =>
            have hee : e2 ≠ 0 := addS_none hadd
            have heb2 : (e2 != 0) = true := bne_iff_ne.2 hee
            gi_wp2_with (first | (refine ⟨trivial, ?_⟩; gi_at_call 79; refine (CallsIn.inRound lp (callsIn_wide.2 HCT.out)).mono ?_; rintro e2 w2 ⟨rfl, hb2⟩; have hb3 : Go.RowKit.Below W.heap.size W (w2.alloc (.cells #[.int .i64 s.first, .int .i64 s.last, .string s.val] 96)) := below_alloc hb2 _; have F : ∀ k cs ty, W.heap[k]? = some (Obj.cells cs ty (0, 0)) → (w2.alloc (.cells #[.int .i64 s.first, .int .i64 s.last, .string s.val] 96)).heap[k]? = some (Obj.cells cs ty (0, 0)) := (fun k cs ty h => (hb3.block _ (blk_lt h)).trans h); have k1 := F _ _ _ HD.out.2.1; have k2 := F _ _ _ HD.out.2.2.1; have k3 := F _ _ _ HD.out.2.2.2.1; have y0 : (w2.alloc (.cells #[.int .i64 s.first, .int .i64 s.last, .string s.val] 96)).cell? ⟨w.heap.size, 0, none⟩ = some _ := (blk_cell (F _ _ _ HD.out.1) 0).trans rfl; have y1 : (w2.alloc (.cells #[.int .i64 s.first, .int .i64 s.last, .string s.val] 96)).cell? ⟨w.heap.size + 1, 0, none⟩ = some _ := (blk_cell k1 0).trans rfl; have y2 : (w2.alloc (.cells #[.int .i64 s.first, .int .i64 s.last, .string s.val] 96)).cell? ⟨w.heap.size + 1 + 1, 0, none⟩ = some _ := (blk_cell k2 0).trans rfl; have y3 : (w2.alloc (.cells #[.int .i64 s.first, .int .i64 s.last, .string s.val] 96)).cell? ⟨w.heap.size + 1 + 1 + 1, 0, none⟩ = some _ := (blk_cell k3 0).trans rfl; have y7 : (w2.alloc (.cells #[.int .i64 s.first, .int .i64 s.last, .string s.val] 96)).cell? ⟨P7, 0, none⟩ = some _ := (blk_cell (F _ _ _ HD.out.2.2.2.2.1) 0).trans rfl; have z1 := blk_frozen k1 0; have z2 := blk_frozen k2 0; have z3 := blk_frozen k3 0; have m0 := cell_up hb3 l0; have H2 := Aside0.mk (And.intro hb2 (And.intro hb3 (And.intro k1 (And.intro k2 k3)))); clear hb2 hb3 F k1 k2 k3) | (refine ⟨trivial, ?_⟩; gi_at_call 53; refine (CallsIn.inRound lp (callsIn_wide.2 (CC.out _ H2.out.2.1))).mono ?_; rintro e3 w3 ⟨rfl, rfl⟩) | (refine ⟨trivial, ?_⟩; gi_at_call 80; refine (CallsIn.inRound lp (callsIn_wide.2 (CA2.out _ H2.out.2.1))).mono ?_; rintro e4 w4 ⟨p4, rfl, hb4, rfl⟩; have h7 := (hb4.block _ (by rw [World.size_alloc]; have := H2.out.1.size; have := HD.out.2.2.2.2.2.2.2.2.2.2.1; omega)).trans ((H2.out.2.1.block _ HD.out.2.2.2.2.2.2.2.2.2.2.1).trans HD.out.2.2.2.2.1); have c7 : w4.cell? ⟨P7, 0, none⟩ = some _ := (blk_cell h7 0).trans rfl; have f7 := blk_frozen h7 0; have F5 : ∀ k cs ty, W.heap[k]? = some (Obj.cells cs ty (0, 0)) → k ≠ P7 → (w4.setCell ⟨P7, 0, none⟩ (.pointer none)).heap[k]? = some (Obj.cells cs ty (0, 0)) := (fun k cs ty h hk => (Go.RowKit.Below.heap_setCell _ ⟨P7, 0, none⟩ _ k hk).trans ((hb4.block _ (Nat.lt_of_lt_of_le (blk_lt h) H2.out.2.1.size)).trans ((H2.out.2.1.block _ (blk_lt h)).trans h))); have k1 := F5 _ _ _ HD.out.2.1 (by omega); have k2 := F5 _ _ _ HD.out.2.2.1 (by omega); have k3 := F5 _ _ _ HD.out.2.2.2.1 (by omega); have y1 : (w4.setCell ⟨P7, 0, none⟩ (.pointer none)).cell? ⟨w.heap.size + 1, 0, none⟩ = some _ := (blk_cell k1 0).trans rfl; have y2 : (w4.setCell ⟨P7, 0, none⟩ (.pointer none)).cell? ⟨w.heap.size + 1 + 1, 0, none⟩ = some _ := (blk_cell k2 0).trans rfl; have y3 : (w4.setCell ⟨P7, 0, none⟩ (.pointer none)).cell? ⟨w.heap.size + 1 + 1 + 1, 0, none⟩ = some _ := (blk_cell k3 0).trans rfl; have m5 : (w4.setCell ⟨P7, 0, none⟩ (.pointer none)).cell? ⟨Lv, 0, none⟩ = some _ := (blk_cell (F5 _ _ _ HLV.out (by omega)) 0).trans rfl; have z1 := blk_frozen k1 0; have z2 := blk_frozen k2 0; have z3 := blk_frozen k3 0; have H4 := Aside0.mk (And.intro hb4 (And.intro k1 (And.intro k2 k3))); clear hb4 h7 F5 k1 k2 k3))
            gi_region
            all_goals (
              gi_wp2
              obtain ⟨hb4, k1, k2, k3⟩ := H4.out
              have bW := HD.out.2.2.2.2.2.2.2.2.2.1
              have b4 := H2.out.2.1.trans (hb4.mono H2.out.2.1.size)
              obtain ⟨s1, s2, s3, s4, s5⟩ := stop3 (W := W) (t := e2) (n := n) (K := fun b => b = Bc ∨ b = B) (Z := Z) ((bW.trans (b4.mono bW.size)).setCell (p := ⟨P7, 0, none⟩) (by show w.heap.size ≤ P7; omega) _) (fun b_ hgt hlt => (Go.RowKit.Below.heap_setCell _ ⟨P7, 0, none⟩ _ b_ (by show b_ ≠ P7; omega)).trans (b4.block b_ hlt)) HD.out.2.2.2.2.2.2.2.2.2.2.2.1 HD.out.2.2.2.2.2.2.2.2.2.2.1 HD.out.2.2.2.2.2.2.2.2.2.2.2.2 k1 k2 k3
              refine ⟨s1, rfl, (e2, (n : Int)), hee, ?_, s2, s3, s4, s5⟩
              have h := HX.out.2.1
              rw [if_pos he, if_neg hno, hadd] at h
              exact h)
      | false =>
        by_cases hv0 : vals = []
        · have hno : ¬ (vals ≠ [] ∧ Lib.containsS vals s.val = false) := fun h => h.1 hv0
          subst hv0
          clear hcn
          cases hadd : addS l5 s with
          | mk o e2 =>
            have CA2 := Aside0.mk (fun (W' : World) (hW' : Go.RowKit.Below W.heap.size W W') => by have h := CA.out W' hW'; rw [hadd] at h; exact h)
            cases o with
            | some l' =>
              have he2 : e2 = 0 := (addS_some hadd).1
              subst he2
              gi_wp2_with (first | (refine ⟨trivial, ?_⟩; gi_at_call 79; refine (CallsIn.inRound lp (callsIn_wide.2 HCT.out)).mono ?_; rintro e2 w2 ⟨rfl, hb2⟩; have hb3 : Go.RowKit.Below W.heap.size W (w2.alloc (.cells #[.int .i64 s.first, .int .i64 s.last, .string s.val] 96)) := below_alloc hb2 _; have F : ∀ k cs ty, W.heap[k]? = some (Obj.cells cs ty (0, 0)) → (w2.alloc (.cells #[.int .i64 s.first, .int .i64 s.last, .string s.val] 96)).heap[k]? = some (Obj.cells cs ty (0, 0)) := (fun k cs ty h => (hb3.block _ (blk_lt h)).trans h); have k1 := F _ _ _ HD.out.2.1; have k2 := F _ _ _ HD.out.2.2.1; have k3 := F _ _ _ HD.out.2.2.2.1; have y0 : (w2.alloc (.cells #[.int .i64 s.first, .int .i64 s.last, .string s.val] 96)).cell? ⟨w.heap.size, 0, none⟩ = some _ := (blk_cell (F _ _ _ HD.out.1) 0).trans rfl; have y1 : (w2.alloc (.cells #[.int .i64 s.first, .int .i64 s.last, .string s.val] 96)).cell? ⟨w.heap.size + 1, 0, none⟩ = some _ := (blk_cell k1 0).trans rfl; have y2 : (w2.alloc (.cells #[.int .i64 s.first, .int .i64 s.last, .string s.val] 96)).cell? ⟨w.heap.size + 1 + 1, 0, none⟩ = some _ := (blk_cell k2 0).trans rfl; have y3 : (w2.alloc (.cells #[.int .i64 s.first, .int .i64 s.last, .string s.val] 96)).cell? ⟨w.heap.size + 1 + 1 + 1, 0, none⟩ = some _ := (blk_cell k3 0).trans rfl; have y7 : (w2.alloc (.cells #[.int .i64 s.first, .int .i64 s.last, .string s.val] 96)).cell? ⟨P7, 0, none⟩ = some _ := (blk_cell (F _ _ _ HD.out.2.2.2.2.1) 0).trans rfl; have z1 := blk_frozen k1 0; have z2 := blk_frozen k2 0; have z3 := blk_frozen k3 0; have m0 := cell_up hb3 l0; have H2 := Aside0.mk (And.intro hb2 (And.intro hb3 (And.intro k1 (And.intro k2 k3)))); clear hb2 hb3 F k1 k2 k3) | (refine ⟨trivial, ?_⟩; gi_at_call 80; refine (CallsIn.inRound lp (callsIn_wide.2 (CA2.out _ H2.out.2.1))).mono ?_; rintro e4 w4 ⟨p4, rfl, hb4, g6, rfl, ht6⟩; have h7 := (hb4.block _ (by rw [World.size_alloc]; have := H2.out.1.size; have := HD.out.2.2.2.2.2.2.2.2.2.2.1; omega)).trans ((H2.out.2.1.block _ HD.out.2.2.2.2.2.2.2.2.2.2.1).trans HD.out.2.2.2.2.1); have c7 : w4.cell? ⟨P7, 0, none⟩ = some _ := (blk_cell h7 0).trans rfl; have f7 := blk_frozen h7 0; have H4 := Aside0.mk (And.intro hb4 ht6); clear hb4 ht6 h7) | (refine ⟨trivial, ?_⟩))
              exact pI_next HI0.out H2.out.2.1 H4.out.1 H4.out.2 (by have h := HX.out.2.2.1; rw [if_pos he, if_neg hno, hadd] at h; exact h)
            | none =>
              have hee : e2 ≠ 0 := addS_none hadd
              have heb2 : (e2 != 0) = true := bne_iff_ne.2 hee
              gi_wp2_with (first | (refine ⟨trivial, ?_⟩; gi_at_call 79; refine (CallsIn.inRound lp (callsIn_wide.2 HCT.out)).mono ?_; rintro e2 w2 ⟨rfl, hb2⟩; have hb3 : Go.RowKit.Below W.heap.size W (w2.alloc (.cells #[.int .i64 s.first, .int .i64 s.last, .string s.val] 96)) := below_alloc hb2 _; have F : ∀ k cs ty, W.heap[k]? = some (Obj.cells cs ty (0, 0)) → (w2.alloc (.cells #[.int .i64 s.first, .int .i64 s.last, .string s.val] 96)).heap[k]? = some (Obj.cells cs ty (0, 0)) := (fun k cs ty h => (hb3.block _ (blk_lt h)).trans h); have k1 := F _ _ _ HD.out.2.1; have k2 := F _ _ _ HD.out.2.2.1; have k3 := F _ _ _ HD.out.2.2.2.1; have y0 : (w2.alloc (.cells #[.int .i64 s.first, .int .i64 s.last, .string s.val] 96)).cell? ⟨w.heap.size, 0, none⟩ = some _ := (blk_cell (F _ _ _ HD.out.1) 0).trans rfl; have y1 : (w2.alloc (.cells #[.int .i64 s.first, .int .i64 s.last, .string s.val] 96)).cell? ⟨w.heap.size + 1, 0, none⟩ = some _ := (blk_cell k1 0).trans rfl; have y2 : (w2.alloc (.cells #[.int .i64 s.first, .int .i64 s.last, .string s.val] 96)).cell? ⟨w.heap.size + 1 + 1, 0, none⟩ = some _ := (blk_cell k2 0).trans rfl; have y3 : (w2.alloc (.cells #[.int .i64 s.first, .int .i64 s.last, .string s.val] 96)).cell? ⟨w.heap.size + 1 + 1 + 1, 0, none⟩ = some _ := (blk_cell k3 0).trans rfl; have y7 : (w2.alloc (.cells #[.int .i64 s.first, .int .i64 s.last, .string s.val] 96)).cell? ⟨P7, 0, none⟩ = some _ := (blk_cell (F _ _ _ HD.out.2.2.2.2.1) 0).trans rfl; have z1 := blk_frozen k1 0; have z2 := blk_frozen k2 0; have z3 := blk_frozen k3 0; have m0 := cell_up hb3 l0; have H2 := Aside0.mk (And.intro hb2 (And.intro hb3 (And.intro k1 (And.intro k2 k3)))); clear hb2 hb3 F k1 k2 k3) | (refine ⟨trivial, ?_⟩; gi_at_call 80; refine (CallsIn.inRound lp (callsIn_wide.2 (CA2.out _ H2.out.2.1))).mono ?_; rintro e4 w4 ⟨p4, rfl, hb4, rfl⟩; have h7 := (hb4.block _ (by rw [World.size_alloc]; have := H2.out.1.size; have := HD.out.2.2.2.2.2.2.2.2.2.2.1; omega)).trans ((H2.out.2.1.block _ HD.out.2.2.2.2.2.2.2.2.2.2.1).trans HD.out.2.2.2.2.1); have c7 : w4.cell? ⟨P7, 0, none⟩ = some _ := (blk_cell h7 0).trans rfl; have f7 := blk_frozen h7 0; have F5 : ∀ k cs ty, W.heap[k]? = some (Obj.cells cs ty (0, 0)) → k ≠ P7 → (w4.setCell ⟨P7, 0, none⟩ (.pointer none)).heap[k]? = some (Obj.cells cs ty (0, 0)) := (fun k cs ty h hk => (Go.RowKit.Below.heap_setCell _ ⟨P7, 0, none⟩ _ k hk).trans ((hb4.block _ (Nat.lt_of_lt_of_le (blk_lt h) H2.out.2.1.size)).trans ((H2.out.2.1.block _ (blk_lt h)).trans h))); have k1 := F5 _ _ _ HD.out.2.1 (by omega); have k2 := F5 _ _ _ HD.out.2.2.1 (by omega); have k3 := F5 _ _ _ HD.out.2.2.2.1 (by omega); have y1 : (w4.setCell ⟨P7, 0, none⟩ (.pointer none)).cell? ⟨w.heap.size + 1, 0, none⟩ = some _ := (blk_cell k1 0).trans rfl; have y2 : (w4.setCell ⟨P7, 0, none⟩ (.pointer none)).cell? ⟨w.heap.size + 1 + 1, 0, none⟩ = some _ := (blk_cell k2 0).trans rfl; have y3 : (w4.setCell ⟨P7, 0, none⟩ (.pointer none)).cell? ⟨w.heap.size + 1 + 1 + 1, 0, none⟩ = some _ := (blk_cell k3 0).trans rfl; have m5 : (w4.setCell ⟨P7, 0, none⟩ (.pointer none)).cell? ⟨Lv, 0, none⟩ = some _ := (blk_cell (F5 _ _ _ HLV.out (by omega)) 0).trans rfl; have z1 := blk_frozen k1 0; have z2 := blk_frozen k2 0; have z3 := blk_frozen k3 0; have H4 := Aside0.mk (And.intro hb4 (And.intro k1 (And.intro k2 k3))); clear hb4 h7 F5 k1 k2 k3) | (refine ⟨trivial, ?_⟩))
              gi_region
              all_goals (
                gi_wp2
                obtain ⟨hb4, k1, k2, k3⟩ := H4.out
                have bW := HD.out.2.2.2.2.2.2.2.2.2.1
                have b4 := H2.out.2.1.trans (hb4.mono H2.out.2.1.size)
                obtain ⟨s1, s2, s3, s4, s5⟩ := stop3 (W := W) (t := e2) (n := n) (K := fun b => b = Bc ∨ b = B) (Z := Z) ((bW.trans (b4.mono bW.size)).setCell (p := ⟨P7, 0, none⟩) (by show w.heap.size ≤ P7; omega) _) (fun b_ hgt hlt => (Go.RowKit.Below.heap_setCell _ ⟨P7, 0, none⟩ _ b_ (by show b_ ≠ P7; omega)).trans (b4.block b_ hlt)) HD.out.2.2.2.2.2.2.2.2.2.2.2.1 HD.out.2.2.2.2.2.2.2.2.2.2.1 HD.out.2.2.2.2.2.2.2.2.2.2.2.2 k1 k2 k3
                refine ⟨s1, rfl, (e2, (n : Int)), hee, ?_, s2, s3, s4, s5⟩
                have h := HX.out.2.1
                rw [if_pos he, if_neg hno, hadd] at h
                exact h)
        · have CC := Aside0.mk (fun (W' : World) (hW' : Go.RowKit.Below W.heap.size W W') => by have h := contains_calls (.slice AV vals.length cv) vbase vok vals s.val W' (Kd.R_below HX.out.2.2.2.2 hW') hvl; rw [hcn] at h; exact h)
          have hgv : (0 : Int) < (vals.length : Int) := by
            cases vals with
            | nil => exact absurd rfl hv0
            | cons a r => simp only [List.length_cons]; omega
          have HCN := Aside0.mk (And.intro hcn hv0)
          clear hcn hv0
          gi_wp2_with (first | (refine ⟨trivial, ?_⟩; gi_at_call 79; refine (CallsIn.inRound lp (callsIn_wide.2 HCT.out)).mono ?_; rintro e2 w2 ⟨rfl, hb2⟩; have hb3 : Go.RowKit.Below W.heap.size W (w2.alloc (.cells #[.int .i64 s.first, .int .i64 s.last, .string s.val] 96)) := below_alloc hb2 _; have F : ∀ k cs ty, W.heap[k]? = some (Obj.cells cs ty (0, 0)) → (w2.alloc (.cells #[.int .i64 s.first, .int .i64 s.last, .string s.val] 96)).heap[k]? = some (Obj.cells cs ty (0, 0)) := (fun k cs ty h => (hb3.block _ (blk_lt h)).trans h); have k1 := F _ _ _ HD.out.2.1; have k2 := F _ _ _ HD.out.2.2.1; have k3 := F _ _ _ HD.out.2.2.2.1; have y0 : (w2.alloc (.cells #[.int .i64 s.first, .int .i64 s.last, .string s.val] 96)).cell? ⟨w.heap.size, 0, none⟩ = some _ := (blk_cell (F _ _ _ HD.out.1) 0).trans rfl; have y1 : (w2.alloc (.cells #[.int .i64 s.first, .int .i64 s.last, .string s.val] 96)).cell? ⟨w.heap.size + 1, 0, none⟩ = some _ := (blk_cell k1 0).trans rfl; have y2 : (w2.alloc (.cells #[.int .i64 s.first, .int .i64 s.last, .string s.val] 96)).cell? ⟨w.heap.size + 1 + 1, 0, none⟩ = some _ := (blk_cell k2 0).trans rfl; have y3 : (w2.alloc (.cells #[.int .i64 s.first, .int .i64 s.last, .string s.val] 96)).cell? ⟨w.heap.size + 1 + 1 + 1, 0, none⟩ = some _ := (blk_cell k3 0).trans rfl; have y7 : (w2.alloc (.cells #[.int .i64 s.first, .int .i64 s.last, .string s.val] 96)).cell? ⟨P7, 0, none⟩ = some _ := (blk_cell (F _ _ _ HD.out.2.2.2.2.1) 0).trans rfl; have z1 := blk_frozen k1 0; have z2 := blk_frozen k2 0; have z3 := blk_frozen k3 0; have m0 := cell_up hb3 l0; have H2 := Aside0.mk (And.intro hb2 (And.intro hb3 (And.intro k1 (And.intro k2 k3)))); clear hb2 hb3 F k1 k2 k3) | (refine ⟨trivial, ?_⟩; gi_at_call 53; refine (CallsIn.inRound lp (callsIn_wide.2 (CC.out _ H2.out.2.1))).mono ?_; rintro e3 w3 ⟨rfl, rfl⟩))
          exact pI_skip HI0.out H2.out.2.1 (fun l hl => by
            rw [foldP_snoc vals pre [] l _ hl, foldP, ← HT2.out, if_pos he, if_pos ⟨HCN.out.2, HCN.out.1⟩]; rfl)
    · have heb : (t2 != 0) = true := bne_iff_ne.2 he
      gi_wp2_with (refine ⟨trivial, ?_⟩; gi_at_call 79; refine (CallsIn.inRound lp (callsIn_wide.2 HCT.out)).mono ?_; rintro e2 w2 ⟨rfl, hb2⟩; have hb3 : Go.RowKit.Below W.heap.size W (w2.alloc (.cells #[.int .i64 s.first, .int .i64 s.last, .string s.val] 96)) := below_alloc hb2 _; have F : ∀ k cs ty, W.heap[k]? = some (Obj.cells cs ty (0, 0)) → (w2.alloc (.cells #[.int .i64 s.first, .int .i64 s.last, .string s.val] 96)).heap[k]? = some (Obj.cells cs ty (0, 0)) := (fun k cs ty h => (hb3.block _ (blk_lt h)).trans h); have k1 := F _ _ _ HD.out.2.1; have k2 := F _ _ _ HD.out.2.2.1; have k3 := F _ _ _ HD.out.2.2.2.1; have y0 : (w2.alloc (.cells #[.int .i64 s.first, .int .i64 s.last, .string s.val] 96)).cell? ⟨w.heap.size, 0, none⟩ = some _ := (blk_cell (F _ _ _ HD.out.1) 0).trans rfl; have y1 : (w2.alloc (.cells #[.int .i64 s.first, .int .i64 s.last, .string s.val] 96)).cell? ⟨w.heap.size + 1, 0, none⟩ = some _ := (blk_cell k1 0).trans rfl; have y2 : (w2.alloc (.cells #[.int .i64 s.first, .int .i64 s.last, .string s.val] 96)).cell? ⟨w.heap.size + 1 + 1, 0, none⟩ = some _ := (blk_cell k2 0).trans rfl; have y3 : (w2.alloc (.cells #[.int .i64 s.first, .int .i64 s.last, .string s.val] 96)).cell? ⟨w.heap.size + 1 + 1 + 1, 0, none⟩ = some _ := (blk_cell k3 0).trans rfl; have y7 : (w2.alloc (.cells #[.int .i64 s.first, .int .i64 s.last, .string s.val] 96)).cell? ⟨P7, 0, none⟩ = some _ := (blk_cell (F _ _ _ HD.out.2.2.2.2.1) 0).trans rfl; have z1 := blk_frozen k1 0; have z2 := blk_frozen k2 0; have z3 := blk_frozen k3 0; have m0 := cell_up hb3 l0; have H2 := Aside0.mk (And.intro hb2 (And.intro hb3 (And.intro k1 (And.intro k2 k3)))); clear hb2 hb3 F k1 k2 k3)
      gi_region
      all_goals (
        gi_wp2
        obtain ⟨hb2, hb3, k1, k2, k3⟩ := H2.out
        obtain ⟨s1, s2, s3, s4, s5⟩ := stop3 (t := t2) (n := n) (K := fun b => b = Bc ∨ b = B) (Z := Z) (HD.out.2.2.2.2.2.2.2.2.2.1.trans (hb3.mono HD.out.2.2.2.2.2.2.2.2.2.1.size)) (fun b_ _ hlt => hb3.block b_ hlt) HD.out.2.2.2.2.2.2.2.2.2.2.2.1 HD.out.2.2.2.2.2.2.2.2.2.2.1 HD.out.2.2.2.2.2.2.2.2.2.2.2.2 k1 k2 k3
        refine ⟨s1, rfl, (t2, (n : Int)), he, ?_, s2, s3, s4, s5⟩
        have h := HX.out.2.1
        rw [if_neg he] at h
        exact h)
  case done =>
    rintro Z W hI hDf
    obtain ⟨l5, g5, v5, f1, d0, d1, d2, d3, d7, dg, dgl, dok, dR, dB, dP, dQ, dZ⟩ := hI
    have e7 : W.cell? ⟨P7, 0, none⟩ = some _ := (blk_cell d7 0).trans rfl
    have y1 : W.cell? ⟨w.heap.size + 1, 0, none⟩ = some _ := (blk_cell d1 0).trans rfl
    have y2 : W.cell? ⟨w.heap.size + 1 + 1, 0, none⟩ = some _ := (blk_cell d2 0).trans rfl
    have y3 : W.cell? ⟨w.heap.size + 1 + 1 + 1, 0, none⟩ = some _ := (blk_cell d3 0).trans rfl
    have z1 := blk_frozen d1 0
    have z2 := blk_frozen d2 0
    have z3 := blk_frozen d3 0
    have HI := Aside0.mk (And.intro f1 (And.intro d1 (And.intro d2 (And.intro d3 (And.intro dg (And.intro dgl (And.intro dok (And.intro dR (And.intro dB (And.intro dP dZ))))))))))
    have HDf := Aside0.mk hDf
    clear f1 d0 d1 d2 d3 d7 dg dgl dok dR dB dP dQ dZ hDf
    have hpu : parseP vals b = (some l5, 0, 0) := by
      unfold parseP
      rw [← HLS.out.1, HI.out.1]
    have HPU := Aside0.mk hpu
    clear hpu
    gi_wp2
    go_wp2
    rw [HPU.out]
    obtain ⟨f1, d1, d2, d3, dg, dgl, dok, dR, dB, dP, dZ⟩ := HI.out
    obtain ⟨j1, j2, j3, jf⟩ := three_cells (a' := .pointer (some ⟨g5, 0, none⟩)) (b' := .int .i64 0) (c' := .int .i64 0) d1 d2 d3
    obtain ⟨W6, hW6⟩ : ∃ W6, W6 = ((W.setCell ⟨w.heap.size + 1, 0, none⟩ (.pointer (some ⟨g5, 0, none⟩))).setCell ⟨w.heap.size + 1 + 1, 0, none⟩ (.int .i64 0)).setCell ⟨w.heap.size + 1 + 1 + 1, 0, none⟩ (.int .i64 0) := ⟨_, rfl⟩
    rw [← hW6] at j1 j2 j3 jf ⊢
    have hDl : Wr.heap.size < W.heap.size := (Array.getElem?_eq_some_iff.1 HDf.out).1
    have hD6 : W6.heap[Wr.heap.size]? = some (.deferred (some [])) := (jf _ (by omega) (by omega) (by omega)).trans HDf.out
    have b6 : Go.RowKit.Below w.heap.size w W6 := by
      rw [hW6]
      exact ((dB.setCell (p := ⟨w.heap.size + 1, 0, none⟩) (by show w.heap.size ≤ w.heap.size + 1; omega) _).setCell (p := ⟨w.heap.size + 1 + 1, 0, none⟩) (by show w.heap.size ≤ w.heap.size + 1 + 1; omega) _).setCell (p := ⟨w.heap.size + 1 + 1 + 1, 0, none⟩) (by show w.heap.size ≤ w.heap.size + 1 + 1 + 1; omega) _
    refine ⟨by simp, .inl ⟨_, _, rfl, run_takeDeferred hD6, ?_⟩⟩
    have hg5D : g5 ≠ Wr.heap.size := fun e => by rw [e, HDf.out] at dg; cases dg
    refine ⟨_, results_threeP rfl Tryz.underlying68 _ _ ⟨w.heap.size + 1, 0, none⟩ ⟨w.heap.size + 1 + 1, 0, none⟩ ⟨w.heap.size + 1 + 1 + 1, 0, none⟩ (some ⟨g5, 0, none⟩) 0 0 rfl rfl rfl ?_ ?_ ?_, _, rfl, b6.trans (below_put W6 Wr.heap.size w.heap.size _ (by omega)), g5, rfl, _, (World.putObj_heap_other hg5D).trans ((jf _ (by omega) (by omega) (by omega)).trans dg), by omega, ?_⟩
    · exact (blk_cell ((World.putObj_heap_other (by omega)).trans j1) 0).trans rfl
    · exact (blk_cell ((World.putObj_heap_other (by omega)).trans j2) 0).trans rfl
    · exact (blk_cell ((World.putObj_heap_other (by omega)).trans j3) 0).trans rfl
    · refine Kd.R_lower (Kd.R_mono (Kd.R_step (Kd.R_bound dR) (fun k hk hlt => ?_)) (fun k hk => hk.1.1)) (by omega)
      have hkD : k ≠ Wr.heap.size := fun e => by
        obtain ⟨q, _, cells, hc⟩ := hk.2.2.2
        rw [e, HDf.out] at hc
        cases hc
      have hkb := hk.2.1
      exact (World.putObj_heap_other hkD).trans (jf _ (by omega) (by omega) (by omega))
  case stop =>
    rintro cc pre x r W hx2 ⟨rfl, t, h1, h2, h3, h4, h5, h6⟩ hDf
    have hpu : parseP vals b = (none, t.1, t.2) := by
      unfold parseP
      rw [← HLS.out.1, h2]
    gi_wp2
    go_wp2
    rw [hpu]
    refine ⟨by simp, .inl ⟨_, _, rfl, run_takeDeferred hDf, ?_⟩⟩
    refine ⟨_, results_threeP rfl Tryz.underlying68 _ _ ⟨w.heap.size + 1, 0, none⟩ ⟨w.heap.size + 1 + 1, 0, none⟩ ⟨w.heap.size + 1 + 1 + 1, 0, none⟩ none t.1 t.2 rfl rfl rfl ?_ ?_ ?_, _, rfl, h6.trans (below_put W Wr.heap.size w.heap.size _ (by omega)), rfl⟩
    · exact (blk_cell ((World.putObj_heap_other (by omega)).trans h3) 0).trans rfl
    · exact (blk_cell ((World.putObj_heap_other (by omega)).trans h4) 0).trans rfl
    · exact (blk_cell ((World.putObj_heap_other (by omega)).trans h5) 0).trans rfl
end Go.Proofs.YtebgebgkieglhaaGreatDoor.FieldW
end
section
/- Maps whose elements are whatever values, told key by key. -/
namespace Go.Proofs.YtebgebgkieglhaaGreatDoor.FieldW
open Go.RowKit Go.Shelf Go.Lib Go.Proofs Go Go.Maps
set_option linter.unusedVariables false
set_option linter.unusedSimpArgs false

/-- An element reads as itself. -/
def heldR (v : Value) : Option (DataW Value × List MemPlace) := some (.held v, [])
/-- Block b is a map of at most n entries, of s of them; at the key of x it has F x. -/
def MapIs {α : Type} (enc : α → Value) (okk : α → Prop) (P : Program) (k : TypeId) (w : World) (b n : Nat) (F : α → Option Value) (s : Nat) : Prop :=
  ∃ D : DataW Value, w.ownsMap P k heldR b n D ∧ Maps.size D = s ∧ ∀ x, okk x → ∀ kl, keyOf P k (enc x) = some kl → Maps.has D kl = (F x).isSome ∧ ∀ z, D.atKey kl (.held z) = .held ((F x).getD z)
/-- With this at the key of x. -/
def updF {α β : Type} [DecidableEq α] (F : α → Option β) (x : α) (v : Option β) : α → Option β := fun y => if y = x then v else F y
section
variable {α : Type} {enc : α → Value} {okk : α → Prop} {P : Program} {k : TypeId} {w : World} {b n s : Nat} {F : α → Option Value}
theorem MapIs.made (w : World) : MapIs enc okk P k (w.alloc (.map #[] 0)) w.heap.size 0 (fun _ => none) 0 :=
  ⟨.map [], World.ownsMap_made _ _ _ _, rfl, fun x _ kl _ => ⟨rfl, fun z => rfl⟩⟩
theorem MapIs.kept {w' : World} {row : Option Nat} (h : MapIs enc okk P k w b n F s) (hg : w.grownBy w' row) (hne : some b ≠ row) : MapIs enc okk P k w' b n F s := by
  obtain ⟨D, h1, h2, h3⟩ := h
  exact ⟨D, h1.kept hg hne, h2, h3⟩
theorem MapIs.block {w' : World} (h : MapIs enc okk P k w b n F s) (hg : w'.heap[b]? = w.heap[b]?) : MapIs enc okk P k w' b n F s := by
  obtain ⟨D, ⟨es, c, h1, h1'⟩, h2, h3⟩ := h
  exact ⟨D, ⟨es, c, hg.trans h1, h1'⟩, h2, h3⟩
theorem MapIs.below {w' : World} (h : MapIs enc okk P k w b n F s) (hg : Go.RowKit.Below w.heap.size w w') : MapIs enc okk P k w' b n F s := h.block (hg.block _ (by obtain ⟨D, h1, _⟩ := h; exact h1.lt))
theorem MapIs.lt (h : MapIs enc okk P k w b n F s) : b < w.heap.size := by obtain ⟨D, h1, _⟩ := h; exact h1.lt
theorem MapIs.mono (h : MapIs enc okk P k w b n F s) {n' : Nat} (hn : n ≤ n') : MapIs enc okk P k w b n' F s := by
  obtain ⟨D, h1, h2⟩ := h; exact ⟨D, h1.mono hn, h2⟩
theorem MapIs.is_map (h : MapIs enc okk P k w b n F s) : ∃ es c, w.heap[b]? = some (.map es c) := by obtain ⟨D, ⟨es, c, h1, _⟩, _⟩ := h; exact ⟨es, c, h1⟩
theorem MapIs.put {D : DataW Value} [DecidableEq α] (K : Keyed P k) (hinj : ∀ x y, okk x → okk y → enc x = enc y → x = y) (hT : Tidy D) (h3 : ∀ x, okk x → ∀ kl, keyOf P k (enc x) = some kl → Maps.has D kl = (F x).isSome ∧ ∀ z, D.atKey kl (.held z) = .held ((F x).getD z)) {x : α} (hx : okk x) {kx : Lit} (hkx : keyOf P k (enc x) = some kx) (v : Value) :
    Maps.size (D.put kx (.held v)) = (if (F x).isSome then Maps.size D else Maps.size D + 1) ∧ ∀ y, okk y → ∀ kl, keyOf P k (enc y) = some kl → Maps.has (D.put kx (.held v)) kl = (updF F x (some v) y).isSome ∧ ∀ z, (D.put kx (.held v)).atKey kl (.held z) = .held ((updF F x (some v) y).getD z) := by
  refine ⟨by rw [size_put hT, (h3 x hx kx hkx).1], fun y hy kl hkl => ?_⟩
  unfold updF
  by_cases e : y = x
  · subst e
    have : kl = kx := by rw [hkl] at hkx; injection hkx
    subst this
    rw [if_pos rfl]
    exact ⟨has_put_same hT.isMap (K.key hkl) _, fun z => atKey_put_same hT.isMap (K.key hkl) _ _⟩
  · have hne : kl ≠ kx := fun e2 => e (hinj y x hy hx (K.inj hkl (e2 ▸ hkx)))
    rw [if_neg e]
    obtain ⟨a1, a2⟩ := h3 y hy kl hkl
    exact ⟨(has_put_other hne _).trans a1, fun z => (atKey_put_other hne _ _).trans (a2 z)⟩
theorem MapIs.update [DecidableEq α] {t e : TypeId} (h : MapIs enc okk P k w b n F s) (K : Keyed P k) (hinj : ∀ x y, okk x → okk y → enc x = enc y → x = y) (ht : P.underlying t = some (.map k e)) (hn : n < maxLen) {x : α} (hx : okk x) {kx : Lit} (hkx : keyOf P k (enc x) = some kx) (v : Value) :
    ∃ w', (Instr.mapUpdate t (.map (some b)) (enc x) v).run P w = .ok () w' ∧ MapIs enc okk P k w' b (n + 1) (updF F x (some v)) (if (F x).isSome then s else s + 1) ∧ w.grownBy w' (some b) := by
  obtain ⟨D, h1, h2, h3⟩ := h
  obtain ⟨w', hrun, r1, r2⟩ := h1.update K ht hn hkx (R := heldR) (val := v) rfl
  obtain ⟨p1, p2⟩ := MapIs.put K hinj (h1.tidy K) h3 hx hkx v
  exact ⟨w', hrun, ⟨_, r1, by rw [p1, h2], p2⟩, r2⟩
theorem MapIs.drop [DecidableEq α] {t e : TypeId} (h : MapIs enc okk P k w b n F s) (K : Keyed P k) (hinj : ∀ x y, okk x → okk y → enc x = enc y → x = y) (ht : P.underlying t = some (.map k e)) {x : α} (hx : okk x) {kx : Lit} (hkx : keyOf P k (enc x) = some kx) (ty : TypeId) :
    ∃ w' s', (Builtin.delete_ #[t, k] ty #[.map (some b), enc x]).run P w = .ok (.tuple #[]) w' ∧ MapIs enc okk P k w' b n (updF F x none) s' ∧ w.grownBy w' (some b) := by
  obtain ⟨D, h1, h2, h3⟩ := h
  obtain ⟨w', hrun, r1, r2⟩ := h1.drop K ht hkx ty
  refine ⟨w', _, hrun, ⟨_, r1, rfl, fun y hy kl hkl => ?_⟩, r2.grown⟩
  unfold updF
  by_cases e : y = x
  · subst e
    have : kl = kx := by rw [hkl] at hkx; injection hkx
    subst this
    rw [if_pos rfl]
    exact ⟨has_del_same, fun z => atKey_del_same _⟩
  · have hne : kl ≠ kx := fun e2 => e (hinj y x hy hx (K.inj hkl (e2 ▸ hkx)))
    rw [if_neg e]
    obtain ⟨a1, a2⟩ := h3 y hy kl hkl
    exact ⟨(has_del_other hne).trans a1, fun z => (atKey_del_other hne _).trans (a2 z)⟩
theorem MapIs.look_ok {t e : TypeId} (h : MapIs enc okk P k w b n F s) (K : Keyed P k) (ht : P.underlying t = some (.map k e)) {z : Value} (hz : (zeroValue e).run P w = .ok z w) {x : α} (hx : okk x) {kx : Lit} (hkx : keyOf P k (enc x) = some kx) :
    (Instr.lookup t (.map (some b)) (enc x) true).run P w = .ok (.tuple #[(F x).getD z, .bool (F x).isSome]) w := by
  obtain ⟨D, h1, h2, h3⟩ := h
  obtain ⟨v, ps, hrun, hv⟩ := h1.look_ok K ht hz (R := heldR) (zd := .held z) (zp := []) rfl hkx
  obtain ⟨a1, a2⟩ := h3 x hx kx hkx
  rw [a1] at hrun
  rw [a2] at hv
  unfold heldR at hv
  injection hv with hv
  injection hv with hv _
  injection hv with hv
  rw [← hv]
  exact hrun
end
section
variable {α : Type} {enc : α → Value} {okk : α → Prop} {P : Program} {w : World} {ops : Array Oper} {rest : List Oper} {o : Oper} {a : Act} {Q : Exit → Act → World → Prop} {F : Fence} {nF : Nat}
/-- 'v, ok := m[k]'. -/
theorem wpList_look (w : World) (hg : o.guard = none) (m x : Operand) (t : TypeId) (hop : o.op = Op.lookup t m x true) (k e : TypeId) (K : Keyed P k) (ht : P.underlying t = some (.map k e)) {z : Value} (hz : (zeroValue e).run P w = .ok z w) (b n s : Nat) (G : α → Option Value) (h : MapIs enc okk P k w b n G s) (y : α) (hy : okk y) {ky : Lit} (hky : keyOf P k (enc y) = some ky)
    (hm : a.eval m = .map (some b)) (hx : a.eval x = enc y) (hK : wpList P ops Q rest (a.put o.dst (.tuple #[(G y).getD z, .bool (G y).isSome])) w) : wpList P ops Q (o :: rest) a w := by
  refine wpList_plain hg fun K' hK' => ?_
  have hrun := h.look_ok K ht hz hy hky
  unfold Oper.wp
  simp [execOp, hop, hm, hx, hrun, Result.andThen]
  exact hK' _ _ hK
theorem wpListIn_look (w : World) (hg : o.guard = none) (m x : Operand) (t : TypeId) (hop : o.op = Op.lookup t m x true) (k e : TypeId) (K : Keyed P k) (ht : P.underlying t = some (.map k e)) {z : Value} (hz : (zeroValue e).run P w = .ok z w) (b n s : Nat) (G : α → Option Value) (h : MapIs enc okk P k w b n G s) (y : α) (hy : okk y) {ky : Lit} (hky : keyOf P k (enc y) = some ky)
    (hm : a.eval m = .map (some b)) (hx : a.eval x = enc y) (hK : wpListIn F nF P ops Q rest (a.put o.dst (.tuple #[(G y).getD z, .bool (G y).isSome])) w) : wpListIn F nF P ops Q (o :: rest) a w := by
  refine wpListIn_plain hg fun K' hK' => ?_
  have hrun := h.look_ok K ht hz hy hky
  unfold Oper.wpIn
  refine ⟨by simp [Oper.about, hop], ?_⟩
  rw [Oper.semAt_plain F _ _ (by rw [hop]; intro c hc'; cases hc')]
  simp [execOp, hop, hm, hx, hrun, Result.andThen]
  exact hK' _ _ hK
/-- 'm[k] = v'. -/
theorem wpList_upd [DecidableEq α] (w : World) (hg : o.guard = none) (m x v : Operand) (t : TypeId) (hop : o.op = Op.mapUpdate t m x v) (k e : TypeId) (K : Keyed P k) (hinj : ∀ x y, okk x → okk y → enc x = enc y → x = y) (ht : P.underlying t = some (.map k e)) (b n s : Nat) (G : α → Option Value) (h : MapIs enc okk P k w b n G s) (hn : n < maxLen) (y : α) (hy : okk y) {ky : Lit} (hky : keyOf P k (enc y) = some ky)
    (hm : a.eval m = .map (some b)) (hx : a.eval x = enc y) (val : Value) (hv : a.eval v = val) (hK : ∀ w', MapIs enc okk P k w' b (n + 1) (updF G y (some val)) (if (G y).isSome then s else s + 1) → w.grownBy w' (some b) → wpList P ops Q rest (a.put o.dst undef) w') : wpList P ops Q (o :: rest) a w := by
  refine wpList_plain hg fun K' hK' => ?_
  obtain ⟨w', hrun, r1, r2⟩ := h.update K hinj ht hn hy hky val
  unfold Oper.wp
  simp [execOp, hop, hm, hx, hv, hrun, Result.andThen]
  exact hK' _ _ (hK w' r1 r2)
theorem wpListIn_upd [DecidableEq α] (w : World) (hg : o.guard = none) (m x v : Operand) (t : TypeId) (hop : o.op = Op.mapUpdate t m x v) (k e : TypeId) (K : Keyed P k) (hinj : ∀ x y, okk x → okk y → enc x = enc y → x = y) (ht : P.underlying t = some (.map k e)) (b n s : Nat) (G : α → Option Value) (h : MapIs enc okk P k w b n G s) (hn : n < maxLen) (y : α) (hy : okk y) {ky : Lit} (hky : keyOf P k (enc y) = some ky)
    (hm : a.eval m = .map (some b)) (hx : a.eval x = enc y) (val : Value) (hv : a.eval v = val) (hK : ∀ w', MapIs enc okk P k w' b (n + 1) (updF G y (some val)) (if (G y).isSome then s else s + 1) → w.grownBy w' (some b) → wpListIn F nF P ops Q rest (a.put o.dst undef) w') : wpListIn F nF P ops Q (o :: rest) a w := by
  refine wpListIn_plain hg fun K' hK' => ?_
  obtain ⟨w', hrun, r1, r2⟩ := h.update K hinj ht hn hy hky val
  unfold Oper.wpIn
  refine ⟨by simp [Oper.about, hop], ?_⟩
  rw [Oper.semAt_plain F _ _ (by rw [hop]; intro c hc'; cases hc')]
  simp [execOp, hop, hm, hx, hv, hrun, Result.andThen]
  exact hK' _ _ (hK w' r1 r2)
end
/-- An int's key. -/
def intEnc (x : Int) : Value := .int .i64 x
def intOk (x : Int) : Prop := (Lit.int .i64 x).wf = true
theorem intKey {P : Program} {k : TypeId} (hk : P.underlying k = some (.int .i64)) {x : Int} (h : intOk x) : keyOf P k (intEnc x) = some (.int .i64 x) := keyOf_int_mk hk h
theorem intInj (x y : Int) (_ : intOk x) (_ : intOk y) (h : intEnc x = intEnc y) : x = y := by unfold intEnc at h; injection h
theorem intOk_of {x : Int} (h1 : -9223372036854775808 ≤ x) (h2 : x ≤ 9223372036854775807) : intOk x := by
  unfold intOk
  exact WalkArith.wf_i64 ⟨h1, h2⟩
end Go.Proofs.YtebgebgkieglhaaGreatDoor.FieldW
end
section
/- confus: what a file is read as. -/
namespace Go.Proofs.YtebgebgkieglhaaGreatDoor.FieldW
open Go.RowKit Go.Shelf Go.Lib Go.Proofs Go.Proofs.YtebgebgkieglhaaGreatDoorW.PrintWords Go.Proofs.YtebgebgkieglhaaGreatDoorW.PrintLast Go.Proofs.YtebgebgkieglhaaGreatDoorW.PrintMore Go.Proofs.YtebgebgkieglhaaGreatDoor.PRef
set_option linter.unusedVariables false
set_option linter.unusedSimpArgs false

theorem pointS_le {s : List UInt8} {c : Nat} (h : pointS s = some c) : c ≤ 1114111 := by
  unfold pointS at h
  split at h
  · cases h
  · cases hv : valF s 0 with
    | none => rw [hv] at h; cases h
    | some d =>
      rw [hv, Option.bind_some] at h
      split at h
      · cases h
      · split at h
        · injection h with h; omega
        · cases h
theorem point_bound (x : ByteArray) : ∃ c e, Go.Proofs.YtebgebgkieglhaaGreatDoor.PlugU.field_Point.f x = some (c, e) ∧ 0 ≤ c ∧ c ≤ 1114111 := by
  unfold Go.Proofs.YtebgebgkieglhaaGreatDoor.PlugU.field_Point.f
  cases h : pointS x.data.toList with
  | none => exact ⟨0, 13, rfl, by omega, by omega⟩
  | some c => exact ⟨c, 0, rfl, by omega, by have := pointS_le h; omega⟩
/-- A line's source, its prototype, its error. -/
def lineC (l : List ByteArray) : Int × List Int × Int := (Go.Proofs.YtebgebgkieglhaaGreatDoor.PU.confus_line.f 1 l).getD (0, [], 12)
theorem lineC_spec (l : List ByteArray) (hsz : ∀ x ∈ l, x.size ≤ 1000000) : Go.Proofs.YtebgebgkieglhaaGreatDoor.PU.confus_line.f 1 l = some (lineC l) ∧ 0 ≤ (lineC l).1 ∧ (lineC l).1 ≤ 1114111 := by
  have : ∃ c p e, Go.Proofs.YtebgebgkieglhaaGreatDoor.PU.confus_line.f 1 l = some (c, p, e) ∧ 0 ≤ c ∧ c ≤ 1114111 := by
    unfold Go.Proofs.YtebgebgkieglhaaGreatDoor.PU.confus_line.f
    by_cases h3 : (l.length : Int) = 3
    · obtain ⟨c, e, h1, h2⟩ := point_bound (rdOf ByteArray.empty l 0)
      have hq : Go.Proofs.YtebgebgkieglhaaGreatDoor.PlugU.field_Sequence.f (rdOf ByteArray.empty l 1) = some (seqS (rdOf ByteArray.empty l 1).data.toList) := by
        unfold Go.Proofs.YtebgebgkieglhaaGreatDoor.PlugU.field_Sequence.f
        rw [if_pos (rdOf_size l 1 hsz)]
      rw [if_pos h3, if_pos (by omega : (0 : Int) < l.length), h1, Option.bind_some, hq, Option.bind_some, if_pos (by omega : (1 : Int) < l.length)]
      have hj : ∀ y1 y2 y3, ∃ p2 e2, Go.Proofs.YtebgebgkieglhaaGreatDoor.PU.confus_line.j0 1 c y1 y2 y3 = some (c, p2, e2) := by
        intro y1 y2 y3
        rw [Go.Proofs.YtebgebgkieglhaaGreatDoor.PU.confus_line.j0]
        repeat' split
        all_goals exact ⟨_, _, rfl⟩
      split
      · split
        · obtain ⟨p2, e2, h⟩ := hj (seqS (rdOf ByteArray.empty l 1).data.toList).2 (seqS (rdOf ByteArray.empty l 1).data.toList).1 (((seqS (rdOf ByteArray.empty l 1).data.toList).1.length : Int) == 0)
          exact ⟨c, p2, e2, h, h2⟩
        · obtain ⟨p2, e2, h⟩ := hj (seqS (rdOf ByteArray.empty l 1).data.toList).2 (seqS (rdOf ByteArray.empty l 1).data.toList).1 false
          exact ⟨c, p2, e2, h, h2⟩
      · exact ⟨0, _, _, rfl, by omega, by omega⟩
    · rw [if_neg h3]
      exact ⟨0, _, _, rfl, by omega, by omega⟩
  obtain ⟨c, p, e, h, h2⟩ := this
  unfold lineC
  rw [h]
  exact ⟨rfl, h2⟩
/-- A source's prototype. -/
def lookC (l : List (Int × List Int)) (c : Int) : Option (List Int) := (l.find? (fun p => p.1 == c)).map (·.2)
theorem lookC_snoc (l : List (Int × List Int)) (c : Int) (p : List Int) (x : Int) (h : lookC l c = none) : lookC (l ++ [(c, p)]) x = if x = c then some p else lookC l x := by
  unfold lookC at h ⊢
  rw [List.find?_append]
  by_cases e : x = c
  · subst e
    have hn : l.find? (fun p => p.1 == x) = none := by
      cases hq : l.find? (fun p => p.1 == x) with
      | none => rfl
      | some q => rw [hq] at h; cases h
    rw [hn, if_pos rfl]
    simp
  · rw [if_neg e]
    have : List.find? (fun q : Int × List Int => q.1 == x) [(c, p)] = none := by
      simp; omega
    rw [this]
    simp
/-- What the lines of a file of confusables are read as. -/
def foldC : List (Nat × List ByteArray) → List (Int × List Int) → Option (List (Int × List Int)) × Int × Int
  | [], l => (some l, 0, 0)
  | (n, x) :: r, l =>
    if (lineC x).2.2 = 0 then
      if (lookC l (lineC x).1).isSome then (none, 15, n) else foldC r (l ++ [((lineC x).1, (lineC x).2.1)])
    else (none, (lineC x).2.2, n)
def parseC (b : List UInt8) : Option (List (Int × List Int)) × Int × Int := foldC (linesOf 0 (pieceB 10 ⟨b.toArray⟩)) []
theorem foldC_snoc : ∀ (pre : List (Nat × List ByteArray)) (l l1 : List (Int × List Int)) (r : List (Nat × List ByteArray)), foldC pre l = (some l1, 0, 0) → foldC (pre ++ r) l = foldC r l1
  | [], l, l1, r, h => by
    have : l = l1 := by injection h with h; injection h
    subst this
    rfl
  | (n, x) :: pre, l, l1, r, h => by
    rw [foldC] at h
    rw [List.cons_append, foldC]
    split at h
    · rename_i h0
      rw [if_pos h0]
      split at h
      · cases h
      · rename_i h1
        rw [if_neg h1]
        exact foldC_snoc pre _ l1 r h
    · cases h
theorem foldC_len : ∀ (ls : List (Nat × List ByteArray)) (l l1 : List (Int × List Int)) (e a : Int), foldC ls l = (some l1, e, a) → l1.length ≤ l.length + ls.length ∧ e = 0 ∧ a = 0
  | [], l, l1, e, a, h => by
    injection h with h1 h2
    injection h1 with h1
    injection h2 with h2 h3
    subst h1 h2 h3
    exact ⟨by simp, rfl, rfl⟩
  | (n, x) :: r, l, l1, e, a, h => by
    rw [foldC] at h
    split at h
    · split at h
      · cases h
      · obtain ⟨a1, a2⟩ := foldC_len r _ l1 e a h
        exact ⟨by rw [List.length_append] at a1; simp at a1 ⊢; omega, a2⟩
    · cases h
/-- The prototypes as the map holds them. -/
def protosAt (w : World) (lo : Nat) (okp : Nat → Prop) (l : List (Int × List Int)) (F : Int → Option Value) : Prop :=
  ∀ c, match lookC l c with
    | some p => ∃ v, F c = some v ∧ Kd.R (Kd.int .i64) 3 w lo okp v p
    | none => F c = none
theorem protosAt.isSome {w : World} {lo : Nat} {okp : Nat → Prop} {l : List (Int × List Int)} {F : Int → Option Value} (h : protosAt w lo okp l F) (c : Int) : (F c).isSome = (lookC l c).isSome := by
  have := h c
  cases hl : lookC l c with
  | none => rw [hl] at this; dsimp only at this; rw [this]; rfl
  | some p => rw [hl] at this; obtain ⟨v, hv, _⟩ := this; rw [hv]; rfl
theorem protosAt.turn {w w' : World} {lo lo' : Nat} {okp okp' : Nat → Prop} {l : List (Int × List Int)} {F : Int → Option Value} (h : protosAt w lo okp l F) (hT : ∀ v p, Kd.R (Kd.int .i64) 3 w lo okp v p → Kd.R (Kd.int .i64) 3 w' lo' okp' v p) : protosAt w' lo' okp' l F := by
  intro c
  have := h c
  cases hl : lookC l c with
  | none => rw [hl] at this; exact this
  | some p => rw [hl] at this; obtain ⟨v, hv, hr⟩ := this; exact ⟨v, hv, hT v p hr⟩
theorem protosAt.snoc {w : World} {lo : Nat} {okp : Nat → Prop} {l : List (Int × List Int)} {F : Int → Option Value} (h : protosAt w lo okp l F) (c : Int) (p : List Int) (v : Value) (hc : lookC l c = none) (hv : Kd.R (Kd.int .i64) 3 w lo okp v p) : protosAt w lo okp (l ++ [(c, p)]) (updF F c (some v)) := by
  intro x
  rw [lookC_snoc l c p x hc]
  unfold updF
  by_cases e : x = c
  · rw [if_pos e, if_pos e]; exact ⟨v, rfl, hv⟩
  · rw [if_neg e, if_neg e]; exact h x
/-- A table of prototypes in memory. -/
def CTab (w : World) (base g : Nat) (l : List (Int × List Int)) : Prop :=
  ∃ Bm F, w.heap[g]? = some (.cells #[.map (some Bm)] 91 (0, 0)) ∧ base ≤ g ∧ base ≤ Bm ∧ Bm ≠ g ∧ MapIs intEnc intOk Tryz.prog 3 w Bm l.length F l.length ∧ protosAt w base (fun k => k ≠ g ∧ k ≠ Bm) l F
theorem CTab.below {w w' : World} {base g : Nat} {l : List (Int × List Int)} (h : CTab w base g l) (hb : Go.RowKit.Below w.heap.size w w') : CTab w' base g l := by
  obtain ⟨Bm, F, h1, h2, h3, h4, h5, h6⟩ := h
  exact ⟨Bm, F, (hb.block _ (blk_lt h1)).trans h1, h2, h3, h4, h5.below hb, h6.turn (fun v p h => Kd.R_below h hb)⟩
/-- A table of these prototypes, or none. -/
def resC (base : Nat) (r : Option (List (Int × List Int))) (p : Value) (w : World) : Prop := match r with
  | none => p = .pointer none
  | some l => ∃ g, p = .pointer (some ⟨g, 0, none⟩) ∧ CTab w base g l
end Go.Proofs.YtebgebgkieglhaaGreatDoor.FieldW
end
section
/- unicode: find, Decomp, Ccc. -/
namespace Go.Proofs.YtebgebgkieglhaaGreatDoor.FieldW
open Go.RowKit Go.Shelf Go.Lib Go.Proofs Go.Proofs.YtebgebgkieglhaaGreatDoorW.PrintWords Go.Proofs.YtebgebgkieglhaaGreatDoorW.PrintLast Go.Proofs.YtebgebgkieglhaaGreatDoorW.PrintMore Go.Proofs.YtebgebgkieglhaaGreatDoor.PRef
set_option linter.unusedVariables false
set_option linter.unusedSimpArgs false

theorem info3N : (Tryz.prog.info? 3).map (fun i => (i.zero, i.size, i.bytes)) = some (some (.int .i64 0), 1, 8) := by kernel_rfl
set_option maxHeartbeats 4000000 in
set_option maxRecDepth 100000 in
/-- slices.Clone of ints. -/
theorem clone_ints (A : Option Addr) (c : Nat) (l : List Int) (w : World) (hr : Kd.C (Kd.int .i64) w A l.length l) (hl : l.length ≤ 1000000) :
    Calls Tryz.prog 42 #[.slice A l.length c] w fun e w' => ∃ v, e = .returned v ∧ Kd.R (Kd.int .i64) 3 w' w.heap.size (fun _ => True) v l ∧ Go.RowKit.Below w.heap.size w w' := by
  have hq := fun w => Go.Lib.run_eql_slice_nil (P := Tryz.prog) w 38 3 A l.length c 0 0 Tryz.underlying38
  cases A with
  | none =>
    have h0 : l.length = 0 := by
      rcases Nat.eq_zero_or_pos l.length with h | h
      · exact h
      · obtain ⟨ad, h1, _⟩ := hr.2.2 h; cases h1
    have hnil : l = [] := List.length_eq_zero_iff.1 h0
    subst hnil
    simp only [Option.isNone_none, List.length_nil] at hq
    clear hr hl h0
    go_enter Tryz.func42, Tryz.ntmps42
    go_wp2
    go_ret
    exact ⟨_, rfl, Kd.R_nil _ _ _ _ _, Go.RowKit.Below.refl _ _⟩
  | some ad =>
    simp only [Option.isNone_some] at hq
    have HR := Aside0.mk hr
    clear hr
    go_enter Tryz.func42, Tryz.ntmps42
    go_wp2_with (first
      | ((with_reducible refine gate_dst (N := 5) rfl ?_); refine Kd.R_lit (Kd.int .i64) w.heap.size 3 ?hg (N := 5) ?hd (xs := ([] : List Int)) (inner := []) (ok := fun _ => True) (okp := fun _ => True) ?hr ?hp (fun _ hk => hk) trivial (Go.RowKit.Below.refl _ _) (Nat.le_refl _) (by simp) ?_; (case hd => rfl); (case hg => rfl); (case hr => first | (go_simp; done) | (go_simp; rfl)); (case hp => exact Reps.none _ _); intro v1 w1 ho1 hb1 hg1 hn1; have HO := Aside0.mk ho1; have HB := Aside0.mk hb1; clear ho1 hb1 hg1 hn1)
      | ((with_reducible refine gate_dst (N := 7) rfl ?_); refine Kd.R_append_row (Value.int .i64) (0 : Int) (h1 := fun _ => rfl) (w0 := w) w.heap.size rfl (.tmp 5) (.tmp 6) 38 3 (.int .i64 0) 8 rfl Tryz.underlying38 info3N rfl (by decide) _ [] l (some ad) l.length c (fun _ => True) rfl rfl (fun _ _ => trivial) HO.out (Kd.C_below HR.out HB.out) HB.out (below_size HB.out) (by simpa using (show l.length * 8 ≤ 140737488355328 by omega)) ?_; intro v2 w2 ho2 hb2 hg2 hn2; have HO2 := Aside0.mk ho2; have HB2 := Aside0.mk hb2; clear ho2 hb2 hg2 hn2))
    go_ret
    exact ⟨_, rfl, HO2.out, HB2.out⟩
theorem six_set {w : World} {g : Nat} {a0 a1 a2 a3 a4 a5 : Value} (b0 b1 b2 b3 b4 b5 : Value) (h : w.heap[g]? = some (.cells #[a0, a1, a2, a3, a4, a5] 40 (0, 0))) :
    ((((((w.setCell ⟨g, 0, none⟩ b0).setCell ⟨g, 1, none⟩ b1).setCell ⟨g, 2, none⟩ b2).setCell ⟨g, 3, none⟩ b3).setCell ⟨g, 4, none⟩ b4).setCell ⟨g, 5, none⟩ b5).heap[g]? = some (.cells #[b0, b1, b2, b3, b4, b5] 40 (0, 0)) ∧
    ∀ n, n ≤ g → ∀ w0, Go.RowKit.Below n w0 w → Go.RowKit.Below n w0 ((((((w.setCell ⟨g, 0, none⟩ b0).setCell ⟨g, 1, none⟩ b1).setCell ⟨g, 2, none⟩ b2).setCell ⟨g, 3, none⟩ b3).setCell ⟨g, 4, none⟩ b4).setCell ⟨g, 5, none⟩ b5) := by
  refine ⟨blk_set (blk_set (blk_set (blk_set (blk_set (blk_set h 0 b0) 1 b1) 2 b2) 3 b3) 4 b4) 5 b5, fun n hn w0 hb => ?_⟩
  exact (((((hb.setCell (p := ⟨g, 0, none⟩) hn _).setCell (p := ⟨g, 1, none⟩) hn _).setCell (p := ⟨g, 2, none⟩) hn _).setCell (p := ⟨g, 3, none⟩) hn _).setCell (p := ⟨g, 4, none⟩) hn _).setCell (p := ⟨g, 5, none⟩) hn _
def zeroRow : URow := ⟨0, 0, ⟨#[]⟩, 0, ⟨#[]⟩, []⟩
/-- The row of a code point; the zero one: there is none. -/
def rowAt (rs : List URow) (c : Int) : URow := if there (cfR c) rs then rs.getD (ahead (cfR c) rs) zeroRow else zeroRow
theorem UTab.below {w w' : World} {base g : Nat} {l : List URow} (h : UTab w base g l) (hb : Go.RowKit.Below w.heap.size w w') : UTab w' base g l := by
  obtain ⟨v, h1, h2, h3⟩ := h
  exact ⟨v, (hb.block _ (blk_lt h1)).trans h1, h2, Kd.R_below h3 hb⟩
set_option maxHeartbeats 4000000 in
set_option maxRecDepth 100000 in
theorem findU_calls (base g : Nat) (rs : List URow) (c : Int) (w : World) (hT : UTab w base g rs) (hlen : rs.length ≤ 1000000) (hS : RisingR rs) :
    Calls Tryz.prog 44 #[.pointer (some ⟨g, 0, none⟩), .int .i64 c] w fun e w' => ∃ vd, e = .returned (.agg #[.int .i64 (rowAt rs c).first, .int .i64 (rowAt rs c).last, .string (rowAt rs c).gc, .int .i64 (rowAt rs c).ccc, .string (rowAt rs c).bidi, vd]) ∧ Go.RowKit.Below w.heap.size w w' ∧ Kd.R (Kd.int .i64) 3 w' base (fun k => k ≠ g) vd (rowAt rs c).dec := by
  obtain ⟨v, h1, h2, h3⟩ := hT
  have hv : w.cell? ⟨g, 0, none⟩ = some v := (blk_cell h1 0).trans rfl
  obtain ⟨A, cc, rfl⟩ := Kd.R_slice h3
  have hle := ahead_le (cfR c) rs
  obtain ⟨r, hr⟩ : ∃ r, r = rowAt rs c := ⟨_, rfl⟩
  rw [← hr]
  obtain ⟨W0, hW0⟩ : ∃ W0, W0 = w.alloc (.cells #[.int .i64 0, .int .i64 0, .string ⟨#[]⟩, .int .i64 0, .string ⟨#[]⟩, .slice none 0 0] 40) := ⟨_, rfl⟩
  have hB0 : Go.RowKit.Below w.heap.size w W0 := by rw [hW0]; exact below_alloc (Go.RowKit.Below.refl _ _) _
  have hbx : W0.heap[w.heap.size]? = some (.cells #[.int .i64 0, .int .i64 0, .string ⟨#[]⟩, .int .i64 0, .string ⟨#[]⟩, .slice none 0 0] 40 (0, 0)) := by rw [hW0]; exact heap_alloc_new _ _
  have hv0 := cell_up hB0 hv
  rw [hW0] at hv0
  have hu40 := Tryz.underlying40
  cases hth : there (cfR c) rs with
  | false =>
    have hz : r = zeroRow := by rw [hr]; unfold rowAt; rw [hth]; rfl
    subst hz
    have H := Aside0.mk (And.intro h3 (And.intro hlen (And.intro hS (And.intro hB0 hbx))))
    have HTH := Aside0.mk hth
    clear h1 h2 h3 hS hB0 hbx hr hth hv
    go_enter Tryz.func44, Tryz.ntmps44
    go_wp2_with (go_at_call 62; with_reducible refine (bsRow _ base _ rs c _ (Kd.R_below H.out.1 (hW0 ▸ H.out.2.2.2.1)) (by omega) H.out.2.2.1).mono ?_; rintro e w2 ⟨rfl, hg2⟩; rw [HTH.out]; have hbx2 := (hg2.block _ (hW0 ▸ blk_lt H.out.2.2.2.2)).trans (hW0 ▸ H.out.2.2.2.2); have b0 : w2.cell? ⟨w.heap.size, 0, none⟩ = some _ := (blk_cell hbx2 0).trans rfl; have f0 := blk_frozen hbx2 0; have b1 : w2.cell? ⟨w.heap.size, 1, none⟩ = some _ := (blk_cell hbx2 1).trans rfl; have f1 := blk_frozen hbx2 1; have b2 : w2.cell? ⟨w.heap.size, 2, none⟩ = some _ := (blk_cell hbx2 2).trans rfl; have f2 := blk_frozen hbx2 2; have b3 : w2.cell? ⟨w.heap.size, 3, none⟩ = some _ := (blk_cell hbx2 3).trans rfl; have f3 := blk_frozen hbx2 3; have b4 : w2.cell? ⟨w.heap.size, 4, none⟩ = some _ := (blk_cell hbx2 4).trans rfl; have f4 := blk_frozen hbx2 4; have b5 : w2.cell? ⟨w.heap.size, 5, none⟩ = some _ := (blk_cell hbx2 5).trans rfl; have f5 := blk_frozen hbx2 5; have G2 := Aside0.mk (And.intro ((hW0 ▸ H.out.2.2.2.1 : Go.RowKit.Below w.heap.size w (w.alloc (.cells #[.int .i64 0, .int .i64 0, .string ⟨#[]⟩, .int .i64 0, .string ⟨#[]⟩, .slice none 0 0] 40))).trans (hg2.mono (World.size_alloc _ _ ▸ Nat.le_succ _))) hbx2); clear hg2 hbx2)
    obtain ⟨gb, hb2⟩ := G2.out
    obtain ⟨s1, s2⟩ := six_set (.int .i64 0) (.int .i64 0) (.string ⟨#[]⟩) (.int .i64 0) (.string ⟨#[]⟩) (.slice none 0 0) hb2
    refine bodyPost_ret (results_cell_row rfl _ _ w.heap.size 40 #[.int .i64 0, .int .i64 0, .string ⟨#[]⟩, .int .i64 0, .string ⟨#[]⟩, .slice none 0 0] _ _ rfl s1 hu40 rfl (by kernel_rfl)) rfl ?_
    exact ⟨_, rfl, s2 _ (Nat.le_refl _) _ gb, Kd.R_nil _ _ _ _ _⟩
  | true =>
    have hlt : ahead (cfR c) rs < rs.length := by
      unfold there at hth
      cases hq : rs[ahead (cfR c) rs]? with
      | none => rw [hq] at hth; cases hth
      | some x => exact (List.getElem?_eq_some_iff.1 hq).1
    obtain ⟨i, hi⟩ : ∃ i, i = ahead (cfR c) rs := ⟨_, rfl⟩
    rw [← hi] at hlt hle
    have hz : r = rs[i] := by rw [hr]; unfold rowAt; rw [hth, if_pos rfl, List.getD_eq_getElem?_getD, ← hi, List.getElem?_eq_getElem hlt]; rfl
    obtain ⟨g1, cap, cur, vd, ev, -, -, -, hcells, hvd⟩ := rows_at h3 i hlt
    injection ev with ev1 ev2 ev3
    subst ev1
    rw [← hz] at hcells hvd
    have k0 := hcells 0 _ rfl
    have k1 := hcells 1 _ rfl
    have k2 := hcells 2 _ rfl
    have k3 := hcells 3 _ rfl
    have k4 := hcells 4 _ rfl
    have k5 := hcells 5 _ rfl
    simp only [Nat.add_zero, Nat.mul_comm 6] at k0 k1 k2 k3 k4 k5
    have K := Aside0.mk (And.intro hv0 (And.intro k0 (And.intro k1 (And.intro k2 (And.intro k3 (And.intro k4 (And.intro k5 hvd)))))))
    obtain ⟨Ad, cd, rfl⟩ := Kd.R_slice hvd
    have H := Aside0.mk (And.intro h3 (And.intro hlen (And.intro hS (And.intro hB0 hbx))))
    have HTH := Aside0.mk hth
    have HI := Aside0.mk (And.intro hi (And.intro hz hr))
    clear h1 h2 h3 hS hB0 hbx hr hth hv hi hz hcells hvd ev2 ev3 k0 k1 k2 k3 k4 k5
    go_enter Tryz.func44, Tryz.ntmps44
    go_wp2_with (go_at_call 62; with_reducible refine (bsRow _ base _ rs c _ (Kd.R_below H.out.1 (hW0 ▸ H.out.2.2.2.1)) (by omega) H.out.2.2.1).mono ?_; rintro e w2 ⟨rfl, hg2⟩; rw [HTH.out]; have hbx2 := (hg2.block _ (hW0 ▸ blk_lt H.out.2.2.2.2)).trans (hW0 ▸ H.out.2.2.2.2); have b0 : w2.cell? ⟨w.heap.size, 0, none⟩ = some _ := (blk_cell hbx2 0).trans rfl; have f0 := blk_frozen hbx2 0; have b1 : w2.cell? ⟨w.heap.size, 1, none⟩ = some _ := (blk_cell hbx2 1).trans rfl; have f1 := blk_frozen hbx2 1; have b2 : w2.cell? ⟨w.heap.size, 2, none⟩ = some _ := (blk_cell hbx2 2).trans rfl; have f2 := blk_frozen hbx2 2; have b3 : w2.cell? ⟨w.heap.size, 3, none⟩ = some _ := (blk_cell hbx2 3).trans rfl; have f3 := blk_frozen hbx2 3; have b4 : w2.cell? ⟨w.heap.size, 4, none⟩ = some _ := (blk_cell hbx2 4).trans rfl; have f4 := blk_frozen hbx2 4; have b5 : w2.cell? ⟨w.heap.size, 5, none⟩ = some _ := (blk_cell hbx2 5).trans rfl; have f5 := blk_frozen hbx2 5; rw [← HI.out.1]; have hv2 := cell_up hg2 hv0; have k0 := cell_up hg2 (cell_up (hW0 ▸ H.out.2.2.2.1) K.out.2.1); have k1 := cell_up hg2 (cell_up (hW0 ▸ H.out.2.2.2.1) K.out.2.2.1); have k2 := cell_up hg2 (cell_up (hW0 ▸ H.out.2.2.2.1) K.out.2.2.2.1); have k3 := cell_up hg2 (cell_up (hW0 ▸ H.out.2.2.2.1) K.out.2.2.2.2.1); have k4 := cell_up hg2 (cell_up (hW0 ▸ H.out.2.2.2.1) K.out.2.2.2.2.2.1); have k5 := cell_up hg2 (cell_up (hW0 ▸ H.out.2.2.2.1) K.out.2.2.2.2.2.2.1); have G2 := Aside0.mk (And.intro ((hW0 ▸ H.out.2.2.2.1 : Go.RowKit.Below w.heap.size w (w.alloc (.cells #[.int .i64 0, .int .i64 0, .string ⟨#[]⟩, .int .i64 0, .string ⟨#[]⟩, .slice none 0 0] 40))).trans (hg2.mono (World.size_alloc _ _ ▸ Nat.le_succ _))) hbx2); clear hg2 hbx2)
    obtain ⟨gb, hb2⟩ := G2.out
    obtain ⟨s1, s2⟩ := six_set (.int .i64 r.first) (.int .i64 r.last) (.string r.gc) (.int .i64 r.ccc) (.string r.bidi) (.slice Ad r.dec.length cd) hb2
    refine bodyPost_ret (results_cell_row rfl _ _ w.heap.size 40 #[.int .i64 r.first, .int .i64 r.last, .string r.gc, .int .i64 r.ccc, .string r.bidi, .slice Ad r.dec.length cd] _ _ rfl s1 hu40 rfl (by kernel_rfl)) rfl ?_
    have s3 := s2 _ (Nat.le_refl _) _ gb
    exact ⟨_, rfl, s3, Kd.R_mono (Kd.R_below K.out.2.2.2.2.2.2.2 s3) (fun k hk => hk.1)⟩
end Go.Proofs.YtebgebgkieglhaaGreatDoor.FieldW
end
section
/- unicode: Len, Decomp, Ccc, Rows. -/
namespace Go.Proofs.YtebgebgkieglhaaGreatDoor.FieldW
open Go.RowKit Go.Shelf Go.Lib Go.Proofs Go.Proofs.YtebgebgkieglhaaGreatDoorW.PrintWords Go.Proofs.YtebgebgkieglhaaGreatDoorW.PrintLast Go.Proofs.YtebgebgkieglhaaGreatDoorW.PrintMore Go.Proofs.YtebgebgkieglhaaGreatDoor.PRef
set_option linter.unusedVariables false
set_option linter.unusedSimpArgs false
attribute [local go_sem] Oper.semAt_some

set_option maxHeartbeats 4000000 in
set_option maxRecDepth 100000 in
theorem lenU_calls (g : Nat) (A : Option Addr) (n c : Nat) (w : World) (hv : w.cell? ⟨g, 0, none⟩ = some (.slice A n c)) : Calls Tryz.prog 41 #[.pointer (some ⟨g, 0, none⟩)] w fun e w' => e = .returned (.int .i64 n) ∧ w' = w := by
  go_enter Tryz.func41, Tryz.ntmps41
  go_wp2
  go_ret
  exact ⟨rfl, rfl⟩
set_option maxHeartbeats 4000000 in
set_option maxRecDepth 100000 in
theorem decU_calls (base g : Nat) (rs : List URow) (c : Int) (w : World) (hT : UTab w base g rs) (hlen : rs.length ≤ 1000000) (hS : RisingR rs) (hd : (rowAt rs c).dec.length ≤ 1000000) :
    Calls Tryz.prog 17 #[.pointer (some ⟨g, 0, none⟩), .int .i64 c] w fun e w' => ∃ v, e = .returned v ∧ Kd.R (Kd.int .i64) 3 w' w.heap.size (fun _ => True) v (rowAt rs c).dec ∧ Go.RowKit.Below w.heap.size w w' := by
  have HT := Aside0.mk (And.intro hT (And.intro hlen hS))
  obtain ⟨r, hr⟩ : ∃ r, r = rowAt rs c := ⟨_, rfl⟩
  rw [← hr] at hd ⊢
  have HR := Aside0.mk hr
  have hag := fun (a b d e f : Value) (vd : Value) (W : World) => (show (Instr.field 40 (.agg #[a, b, d, e, f, vd]) 5).run Tryz.prog W = .ok vd W by kernel_rfl)
  clear hT hlen hS hr
  go_enter Tryz.func17, Tryz.ntmps17
  go_wp2_with (first
    | (go_at_call 44; with_reducible refine (findU_calls base g rs c _ HT.out.1 HT.out.2.1 HT.out.2.2).mono ?_; rintro e w2 ⟨vd, rfl, hg2, hR2⟩; rw [← HR.out] at hR2 ⊢; obtain ⟨A5, c5, rfl, hlc5, hC5⟩ := Kd.R_reads hR2; have G2 := Aside0.mk (And.intro hg2 hC5); clear hg2 hR2 hC5)
    | (go_at_call 42; with_reducible refine (clone_ints A5 c5 r.dec _ G2.out.2 hd).mono ?_; rintro e w3 ⟨v3, rfl, hR3, hB3⟩; have G3 := Aside0.mk (And.intro hR3 hB3); clear hR3 hB3))
  go_ret
  exact ⟨_, rfl, Kd.R_lower G3.out.1 G2.out.1.size, G2.out.1.trans (G3.out.2.mono G2.out.1.size)⟩
set_option maxHeartbeats 4000000 in
set_option maxRecDepth 100000 in
theorem cccU_calls (base g : Nat) (rs : List URow) (c : Int) (w : World) (hT : UTab w base g rs) (hlen : rs.length ≤ 1000000) (hS : RisingR rs) :
    Calls Tryz.prog 15 #[.pointer (some ⟨g, 0, none⟩), .int .i64 c] w fun e w' => e = .returned (.int .i64 (rowAt rs c).ccc) ∧ Go.RowKit.Below w.heap.size w w' := by
  have HT := Aside0.mk (And.intro hT (And.intro hlen hS))
  obtain ⟨r, hr⟩ : ∃ r, r = rowAt rs c := ⟨_, rfl⟩
  rw [← hr]
  have HR := Aside0.mk hr
  have hag := fun (a b d e f : Value) (vd : Value) (W : World) => (show (Instr.field 40 (.agg #[a, b, d, e, f, vd]) 3).run Tryz.prog W = .ok e W by kernel_rfl)
  clear hT hlen hS hr
  go_enter Tryz.func15, Tryz.ntmps15
  go_wp2_with (go_at_call 44; with_reducible refine (findU_calls base g rs c _ HT.out.1 HT.out.2.1 HT.out.2.2).mono ?_; rintro e w2 ⟨vd, rfl, hg2, hR2⟩; rw [← HR.out] at hR2 ⊢; obtain ⟨A5, c5, rfl⟩ := Kd.R_slice hR2; have G2 := Aside0.mk hg2; clear hg2 hR2)
  go_ret
  exact ⟨rfl, G2.out⟩
/-- What is yielded reads as the row. -/
def rowE (base : Nat) (Z : Nat → Prop) (x : URow) (us : Array Value) (W : World) : Prop :=
  ∃ v, us = #[.agg #[.int .i64 x.first, .int .i64 x.last, .string x.gc, .int .i64 x.ccc, .string x.bidi, v]] ∧ Kd.R (Kd.int .i64) 3 W base (fun k => ¬ Z k) v x.dec
theorem rowE_abides (base : Nat) : EAbides (rowE base) := by
  rintro Z x us W L D rL ⟨v, rfl, h⟩ hL hD
  refine ⟨v, rfl, Kd.R_mono (Kd.R_bound h) ?_⟩
  rintro k ⟨h1, h2, h3, q, hq, cells, h4⟩ h5
  rcases h5 with h5 | h5 | h5
  · exact h1 h5
  · rw [h5, hL] at h4; cases h4
  · rw [h5, hD] at h4; cases h4
theorem UTab.keep {w w' : World} {base g : Nat} {l : List URow} (h : UTab w base g l) (hk : ∀ b, base ≤ b → b < w.heap.size → w'.heap[b]? = w.heap[b]?) : UTab w' base g l := by
  obtain ⟨v, h1, h2, h3⟩ := h
  exact ⟨v, (hk g h2 (blk_lt h1)).trans h1, h2, Kd.R_mono (Kd.R_step (Kd.R_bound h3) (fun k hk' hlt => hk k hk'.2.1 hlt)) (fun k hk' => hk'.1)⟩
set_option maxHeartbeats 4000000 in
set_option maxRecDepth 100000 in
theorem rows_calls (g : Nat) (w : World) : Calls Tryz.prog 11 #[.pointer (some ⟨g, 0, none⟩)] w fun e w' => e = .returned (.func (.func 40) #[] #[.pointer (some ⟨w.heap.size, 0, none⟩)]) ∧ w' = w.alloc (.cells #[.pointer (some ⟨g, 0, none⟩)] 35) := by
  go_enter Tryz.func11, Tryz.ntmps11
  go_wp2
  go_ret
  exact ⟨rfl, rfl⟩
set_option maxHeartbeats 4000000 in
set_option maxRecDepth 100000 in
theorem rows_own {w w0 : World} {Bx base g n0 : Nat} {rs : List URow} (hb : w.heap[Bx]? = some (.cells #[.pointer (some ⟨g, 0, none⟩)] 35 (0, 0))) (hT : UTab w0 base g rs) (h0w : Go.RowKit.Below w0.heap.size w0 w) (hn0 : n0 ≤ w.heap.size) (hl : rs.length ≤ 1000000) (hd : ∀ r ∈ rs, r.dec.length ≤ 1000000) :
    SeqE 3 Tryz.prog 40 #[.pointer (some ⟨Bx, 0, none⟩)] (rowE n0) n0 (fun b => (base ≤ b ∧ b < w0.heap.size) ∨ b = Bx) (fun _ => False) rs w := by
  intro lp J Jx W hW hJ hY h0
  have HJ := Aside0.mk hJ
  have HY := Aside0.mk hY
  have hB := (hW.block _ (blk_lt hb)).trans hb
  have bx : W.cell? ⟨Bx, 0, none⟩ = some (.pointer (some ⟨g, 0, none⟩)) := (blk_cell hB 0).trans rfl
  have h0W : Go.RowKit.Below w0.heap.size w0 W := h0w.trans (hW.mono h0w.size)
  obtain ⟨v, t1, t2, t3⟩ := hT
  obtain ⟨AT, cT, rfl⟩ := Kd.R_slice t3
  have tg : W.cell? ⟨g, 0, none⟩ = some (.slice AT rs.length cT) := (h0W.cell (p := ⟨g, 0, none⟩) (blk_lt t1)).trans ((blk_cell t1 0).trans rfl)
  have H0 := Aside0.mk (And.intro h0 (And.intro hB h0W))
  have HT := Aside0.mk (And.intro t1 (And.intro t2 (And.intro t3 hd)))
  have HN := Aside0.mk (Nat.le_trans hn0 hW.size)
  have hlz : (rs.length : Int) ≤ 1000000 := by omega
  have u59 := Tryz.underlying59
  clear hJ hY h0 hb hB h0w h0W t1 t2 t3 hd hn0
  refine callsIn_of_wp Tryz.func40 rfl trivial ?_ rfl
  simp only [Tryz.ntmps40, List.size_toArray, List.length_cons, List.length_nil, Nat.reduceAdd, Nat.reduceSub, Array.replicate_succ, Array.replicate_zero, List.push_toArray, List.append_toArray, List.nil_append, List.cons_append]
  refine wpIn_wide.2 ?_
  go_wp2_with (go_at_call 41; with_reducible refine (lenU_calls g AT rs.length cT _ tg).mono ?_; rintro e w3 ⟨rfl, rfl⟩)
  go_loopg [3, 4, 7] rs.length (fun gg _ _ s7 wr => ∃ kk : Nat, kk ≤ rs.length ∧ rs.length - kk ≤ gg ∧ s7 = .int .i64 kk ∧ Aside0 (J (fun _ => False) (rs.take kk) wr ∧ wr.heap[Bx]? = some (.cells #[.pointer (some ⟨g, 0, none⟩)] 35 (0, 0)) ∧ (∀ b, base ≤ b → b < w0.heap.size → wr.heap[b]? = w0.heap[b]?) ∧ n0 ≤ wr.heap.size ∧ w0.heap.size ≤ wr.heap.size))
  case atStart => exact ⟨0, Nat.zero_le _, by omega, rfl, ⟨H0.out.1, H0.out.2.1, fun b _ h2 => H0.out.2.2.block b h2, HN.out, H0.out.2.2.size⟩⟩
  case round =>
    obtain ⟨kk, hkk, hg, rfl, HI⟩ := hrel
    by_cases hlt : kk < rs.length
    · have hltz : (kk : Int) < (rs.length : Int) := by omega
      obtain ⟨x, hx⟩ : ∃ x, x = rs[kk] := ⟨_, rfl⟩
      have hT2 : UTab wr base g rs := UTab.keep ⟨_, HT.out.1, HT.out.2.1, HT.out.2.2.1⟩ HI.out.2.2.1
      obtain ⟨v9, u1, u2, u3⟩ := hT2
      have e9 : v9 = .slice AT rs.length cT := by
        have := (HI.out.2.2.1 g HT.out.2.1 (blk_lt HT.out.1)).trans HT.out.1
        rw [u1] at this
        injection this with this
        injection this with this
        simpa using this
      subst e9
      obtain ⟨g1, cap, cur, vd, ev, -, -, -, hcells, hvd⟩ := rows_at u3 kk hlt
      injection ev with ev1 ev2 ev3
      subst ev1
      rw [← hx] at hcells hvd
      obtain ⟨Ad, cd, rfl, hlcd, hCd⟩ := Kd.R_reads hvd
      have k0 := hcells 0 _ rfl
      have k1 := hcells 1 _ rfl
      have k2 := hcells 2 _ rfl
      have k3 := hcells 3 _ rfl
      have k4 := hcells 4 _ rfl
      have k5 := hcells 5 _ rfl
      simp only [Nat.add_zero, Nat.mul_comm 6] at k0 k1 k2 k3 k4 k5
      have bx2 : wr.cell? ⟨Bx, 0, none⟩ = some (.pointer (some ⟨g, 0, none⟩)) := (blk_cell HI.out.2.1 0).trans rfl
      have tg2 : wr.cell? ⟨g, 0, none⟩ = some (.slice (some ⟨g1, 0, none⟩) rs.length cT) := (blk_cell u1 0).trans rfl
      have hdl : x.dec.length ≤ 1000000 := HT.out.2.2.2 x (by rw [hx]; exact List.getElem_mem hlt)
      have hL : rs.take (kk + 1) = rs.take kk ++ [x] := by rw [List.take_succ_eq_append_getElem hlt, ← hx]
      have hA : rs = rs.take kk ++ x :: rs.drop (kk + 1) := by
        have h2 := List.take_append_drop (kk + 1) rs
        rw [hL, List.append_assoc] at h2
        exact h2.symm
      have hn1 := heap_alloc_new wr (.cells #[.int .i64 x.first, .int .i64 x.last, .string x.gc, .int .i64 x.ccc, .string x.bidi, .slice Ad x.dec.length cd] 40)
      have HX := Aside0.mk (And.intro hL (And.intro hA (And.intro hCd hn1)))
      clear hL hA hx hcells hvd ev2 ev3 u1 u2 u3 hCd hn1
      go_upto_region 5 with (go_at_call 42; with_reducible refine (clone_ints Ad cd x.dec _ (Kd.C_below HX.out.2.2.1 (below_alloc (Go.RowKit.Below.refl _ _) _)) hdl).mono ?_; rintro e w2 ⟨v2, rfl, hR2, hB2⟩; have hh2 := (hB2.block _ (blk_lt HX.out.2.2.2)).trans HX.out.2.2.2; have b0 : w2.cell? ⟨wr.heap.size, 0, none⟩ = some _ := (blk_cell hh2 0).trans rfl; have b1 : w2.cell? ⟨wr.heap.size, 1, none⟩ = some _ := (blk_cell hh2 1).trans rfl; have b2 : w2.cell? ⟨wr.heap.size, 2, none⟩ = some _ := (blk_cell hh2 2).trans rfl; have b3 : w2.cell? ⟨wr.heap.size, 3, none⟩ = some _ := (blk_cell hh2 3).trans rfl; have b4 : w2.cell? ⟨wr.heap.size, 4, none⟩ = some _ := (blk_cell hh2 4).trans rfl; have b5 : w2.cell? ⟨wr.heap.size, 5, none⟩ = some _ := (blk_cell hh2 5).trans rfl; have f5 := blk_frozen hh2 5; obtain ⟨A2, c2, rfl⟩ := Kd.R_slice hR2; have G2 := Aside0.mk (And.intro hR2 (And.intro hB2 hh2)); clear hR2 hB2 hh2)
      obtain ⟨W5, hW5⟩ : ∃ W5, W5 = w2.setCell ⟨wr.heap.size, 5, none⟩ (.slice A2 x.dec.length c2) := ⟨_, rfl⟩
      rw [← hW5]
      have h5h : W5.heap[wr.heap.size]? = some (.cells #[.int .i64 x.first, .int .i64 x.last, .string x.gc, .int .i64 x.ccc, .string x.bidi, .slice A2 x.dec.length c2] 40 (0, 0)) := by rw [hW5]; exact blk_set G2.out.2.2 5 _
      have bel5 : Go.RowKit.Below wr.heap.size wr W5 := by
        rw [hW5]
        exact ((below_alloc (Go.RowKit.Below.refl _ _) (.cells #[.int .i64 x.first, .int .i64 x.last, .string x.gc, .int .i64 x.ccc, .string x.bidi, .slice Ad x.dec.length cd] 40)).trans (G2.out.2.1.mono (by simp))).setCell (p := ⟨wr.heap.size, 5, none⟩) (Nat.le_refl _) _
      have hR5 : Kd.R (Kd.int .i64) 3 W5 n0 (fun _ => True) (.slice A2 x.dec.length c2) x.dec := by
        rw [hW5]
        refine Kd.R_lower (Kd.R_mono (Kd.R_far (p := ⟨wr.heap.size, 5, none⟩) (Kd.R_bound G2.out.1) (fun k hk e => ?_) _) (fun _ _ => trivial)) (Nat.le_trans HI.out.2.2.2.1 (by simp))
        have h1 := hk.2.1
        have e' : k = wr.heap.size := e
        rw [World.size_alloc] at h1
        omega
      clear b0 b1 b2 b3 b4 b5 f5 hW5
      have b0 : W5.cell? ⟨wr.heap.size, 0, none⟩ = some _ := (blk_cell h5h 0).trans rfl
      have b1 : W5.cell? ⟨wr.heap.size, 1, none⟩ = some _ := (blk_cell h5h 1).trans rfl
      have b2 : W5.cell? ⟨wr.heap.size, 2, none⟩ = some _ := (blk_cell h5h 2).trans rfl
      have b3 : W5.cell? ⟨wr.heap.size, 3, none⟩ = some _ := (blk_cell h5h 3).trans rfl
      have b4 : W5.cell? ⟨wr.heap.size, 4, none⟩ = some _ := (blk_cell h5h 4).trans rfl
      have b5 : W5.cell? ⟨wr.heap.size, 5, none⟩ = some _ := (blk_cell h5h 5).trans rfl
      have hj3 : J (fun _ => False) (rs.take kk) W5 := HJ.out _ _ _ _ _ none HI.out.1 (grown_of_below bel5) (fun r e => by cases e) (fun b hb => .inl hb)
      have hE : rowE n0 (fun _ => False) x #[.agg #[.int .i64 x.first, .int .i64 x.last, .string x.gc, .int .i64 x.ccc, .string x.bidi, .slice A2 x.dec.length c2]] W5 := ⟨_, rfl, Kd.R_mono hR5 (fun _ _ h => h)⟩
      obtain ⟨fn, tmps, assign, body, hy, hRy⟩ := HY.out _ _ _ _ _ _ hj3 HX.out.2.1 hE
      have HR2 := Aside0.mk hRy
      have H5 := Aside0.mk (And.intro h5h bel5)
      clear hRy hE hj3 hR5 h5h bel5
      refine (wpIn_wide (n := 3)).1 ?_
      gi_wp2
      refine HR2.out.mono ?_
      rintro e W3 (⟨rfl, hJ3, hk3, hb3⟩ | ⟨rfl, hJx3⟩)
      · have H3 := Aside0.mk (And.intro hJ3 (And.intro hk3 hb3))
        clear hJ3 hk3 hb3
        gi_wp2
        go_wp2
        go_roundg (rs.length - (kk + 1))
        case measure => omega
        case rel =>
          refine ⟨kk + 1, by omega, by omega, by go_num, ⟨?_, ((H3.out.2.1 Bx (.inr (.inr rfl))).trans (H5.out.2.block _ (blk_lt HI.out.2.1))).trans HI.out.2.1, fun b h1 h2 => ((H3.out.2.1 b (.inr (.inl ⟨h1, h2⟩))).trans (H5.out.2.block b ?_)).trans (HI.out.2.2.1 b h1 h2), Nat.le_trans HI.out.2.2.2.1 (Nat.le_trans H5.out.2.size H3.out.2.2.size), Nat.le_trans HI.out.2.2.2.2 (Nat.le_trans H5.out.2.size H3.out.2.2.size)⟩⟩
          · rw [HX.out.1]; exact H3.out.1
          · have := HI.out.2.2.2.2; omega
      · gi_wp2
        go_wp2
        refine bodyPost_ret (results_none rfl _ _ _) rfl ?_
        exact ⟨⟨_, rfl⟩, .inr ⟨_, _, _, HX.out.2.1, hJx3⟩⟩
    · have hltz : ¬ (kk : Int) < (rs.length : Int) := by omega
      have : kk = rs.length := by omega
      subst this
      go_wp2
      go_end0
      exact ⟨⟨_, rfl⟩, .inl ⟨_, by have h := HI.out.1; rw [List.take_length] at h; exact h⟩⟩
end Go.Proofs.YtebgebgkieglhaaGreatDoor.FieldW
end
section
/- confus: Parse. -/
namespace Go.Proofs.YtebgebgkieglhaaGreatDoor.FieldW
open Go.RowKit Go.Shelf Go.Lib Go.Proofs Go.Proofs.YtebgebgkieglhaaGreatDoorW.PrintWords Go.Proofs.YtebgebgkieglhaaGreatDoorW.PrintLast Go.Proofs.YtebgebgkieglhaaGreatDoorW.PrintMore Go.Proofs.YtebgebgkieglhaaGreatDoor.PRef
set_option linter.unusedVariables false
set_option linter.unusedSimpArgs false
attribute [local go_sem] Oper.semAt_some

/-- Between two lines. -/
def cI (w : World) (K Z : Nat → Prop) (pre : List (Nat × List ByteArray)) (W : World) : Prop :=
  ∃ l F, foldC pre [] = (some l, 0, 0) ∧ W.heap[w.heap.size]? = some (.cells #[.pointer none] 56 (0, 0)) ∧ W.heap[w.heap.size + 1]? = some (.cells #[.int .i64 0] 28 (0, 0)) ∧ W.heap[w.heap.size + 1 + 1]? = some (.cells #[.int .i64 0] 3 (0, 0)) ∧
    W.heap[w.heap.size + 1 + 1 + 1 + 1]? = some (.cells #[.map (some (w.heap.size + 1 + 1 + 1))] 91 (0, 0)) ∧ W.heap[w.heap.size + 1 + 1 + 1 + 1 + 1]? = some (.cells #[.pointer (some ⟨w.heap.size + 1 + 1 + 1 + 1, 0, none⟩)] 56 (0, 0)) ∧
    MapIs intEnc intOk Tryz.prog 3 W (w.heap.size + 1 + 1 + 1) l.length F l.length ∧ protosAt W (w.heap.size + 6) (fun k => ¬ Z k ∧ ¬ K k) l F ∧
    Go.RowKit.Below w.heap.size w W ∧ w.heap.size + 6 ≤ W.heap.size ∧ (∀ b, Z b ∨ K b → w.heap.size + 6 ≤ b ∧ b < W.heap.size)
theorem cI_turn {w : World} {K Z Z' : Nat → Prop} {s : List (Nat × List ByteArray)} {A B : World} {row : Option Nat} (h : cI w K Z s A) (hg : A.grownBy B row) (hr : ∀ r, row = some r → Z r) (hz : ∀ b, Z' b → Z b ∨ (A.heap.size ≤ b ∧ b < B.heap.size)) : cI w K Z' s B := by
  obtain ⟨l, F, h1, h2, h3, h4, h5, h6, hM, hR, hB, hP, hZ⟩ := h
  have keep : ∀ b, b < A.heap.size → (∀ r, row = some r → b ≠ r) → B.heap[b]? = A.heap[b]? := fun b hb hne => hg.block b hb (fun e => hne b e.symm rfl)
  have low : ∀ b, b < w.heap.size + 6 → B.heap[b]? = A.heap[b]? := fun b hb => keep b (by omega) (fun r e e2 => by have := hZ r (.inl (hr r e)); omega)
  have hsz := hg.size
  refine ⟨l, F, h1, (low _ (by omega)).trans h2, (low _ (by omega)).trans h3, (low _ (by omega)).trans h4, (low _ (by omega)).trans h5, (low _ (by omega)).trans h6, hM.block (low _ (by omega)), hR.turn (fun v p hv => ?_),
    ⟨hg.os.trans hB.os, hg.tape.trans hB.tape, hg.output.trans hB.output, Nat.le_trans hB.size hsz, fun k hk => (low k (by omega)).trans (hB.block k hk)⟩, by omega, fun b hb => ?_⟩
  · exact Kd.R_mono (Kd.R_step (Kd.R_bound hv) (fun k hk hlt => keep k hlt (fun r e e2 => hk.1.1 (e2 ▸ hr r e)))) (fun k hk => ⟨fun hz' => by
      rcases hz k hz' with h1 | h1
      · exact hk.1.1 h1
      · have := hk.2.2.1; omega, hk.1.2⟩)
  · rcases hb with hb | hb
    · rcases hz b hb with h | h
      · have := hZ b (.inl h); omega
      · omega
    · have := hZ b (.inr hb); omega
theorem zero38 (w : World) : (zeroValue 38).run Tryz.prog w = .ok (.slice none 0 0) w := by kernel_rfl
theorem stop3C {w W W3 : World} {K Z : Nat → Prop} {t n : Int} (hB3 : Go.RowKit.Below w.heap.size w W3) (hb3 : ∀ b, w.heap.size + 6 ≤ b → b < W.heap.size → W3.heap[b]? = W.heap[b]?) (dZ : ∀ b, Z b ∨ K b → w.heap.size + 6 ≤ b ∧ b < W.heap.size)
    (k1 : W3.heap[w.heap.size]? = some (.cells #[.pointer none] 56 (0, 0))) (k2 : W3.heap[w.heap.size + 1]? = some (.cells #[.int .i64 0] 28 (0, 0))) (k3 : W3.heap[w.heap.size + 1 + 1]? = some (.cells #[.int .i64 0] 3 (0, 0))) :
    (∀ b, Z b ∨ K b → (((W3.setCell ⟨w.heap.size, 0, none⟩ (.pointer none)).setCell ⟨w.heap.size + 1, 0, none⟩ (.int .i64 t)).setCell ⟨w.heap.size + 1 + 1, 0, none⟩ (.int .i64 n)).drew.heap[b]? = W.heap[b]?) ∧
    (((W3.setCell ⟨w.heap.size, 0, none⟩ (.pointer none)).setCell ⟨w.heap.size + 1, 0, none⟩ (.int .i64 t)).setCell ⟨w.heap.size + 1 + 1, 0, none⟩ (.int .i64 n)).drew.heap[w.heap.size]? = some (.cells #[.pointer none] 56 (0, 0)) ∧
    (((W3.setCell ⟨w.heap.size, 0, none⟩ (.pointer none)).setCell ⟨w.heap.size + 1, 0, none⟩ (.int .i64 t)).setCell ⟨w.heap.size + 1 + 1, 0, none⟩ (.int .i64 n)).drew.heap[w.heap.size + 1]? = some (.cells #[.int .i64 t] 28 (0, 0)) ∧
    (((W3.setCell ⟨w.heap.size, 0, none⟩ (.pointer none)).setCell ⟨w.heap.size + 1, 0, none⟩ (.int .i64 t)).setCell ⟨w.heap.size + 1 + 1, 0, none⟩ (.int .i64 n)).drew.heap[w.heap.size + 1 + 1]? = some (.cells #[.int .i64 n] 3 (0, 0)) ∧
    Go.RowKit.Below w.heap.size w (((W3.setCell ⟨w.heap.size, 0, none⟩ (.pointer none)).setCell ⟨w.heap.size + 1, 0, none⟩ (.int .i64 t)).setCell ⟨w.heap.size + 1 + 1, 0, none⟩ (.int .i64 n)).drew := by
  obtain ⟨j1, j2, j3, jf⟩ := three_cells (a' := .pointer none) (b' := .int .i64 t) (c' := .int .i64 n) k1 k2 k3
  refine ⟨fun b_ hb_ => ?_, j1, j2, j3, below_drew1 (((hB3.setCell (p := ⟨w.heap.size, 0, none⟩) (Nat.le_refl _) _).setCell (p := ⟨w.heap.size + 1, 0, none⟩) (by show w.heap.size ≤ w.heap.size + 1; omega) _).setCell (p := ⟨w.heap.size + 1 + 1, 0, none⟩) (by show w.heap.size ≤ w.heap.size + 1 + 1; omega) _)⟩
  have := dZ b_ hb_
  exact (jf b_ (by omega) (by omega) (by omega)).trans (hb3 b_ this.1 this.2)
theorem cI_next {w W w2 w4 : World} {K Z : Nat → Prop} {pre' : List (Nat × List ByteArray)} {l : List (Int × List Int)} {F : Int → Option Value} {c : Int} {p : List Int} {v : Value}
    (h2 : W.heap[w.heap.size]? = some (.cells #[.pointer none] 56 (0, 0))) (h3 : W.heap[w.heap.size + 1]? = some (.cells #[.int .i64 0] 28 (0, 0))) (h4 : W.heap[w.heap.size + 1 + 1]? = some (.cells #[.int .i64 0] 3 (0, 0)))
    (h5 : W.heap[w.heap.size + 1 + 1 + 1 + 1]? = some (.cells #[.map (some (w.heap.size + 1 + 1 + 1))] 91 (0, 0))) (h6 : W.heap[w.heap.size + 1 + 1 + 1 + 1 + 1]? = some (.cells #[.pointer (some ⟨w.heap.size + 1 + 1 + 1 + 1, 0, none⟩)] 56 (0, 0)))
    (hR : protosAt W (w.heap.size + 6) (fun k => ¬ Z k ∧ ¬ K k) l F) (hB : Go.RowKit.Below w.heap.size w W) (hP : w.heap.size + 6 ≤ W.heap.size) (hZ : ∀ b, Z b ∨ K b → w.heap.size + 6 ≤ b ∧ b < W.heap.size)
    (hb2 : Go.RowKit.Below W.heap.size W w2) (hv : Kd.R (Kd.int .i64) 3 w2 W.heap.size (fun _ => True) v p) (hM : MapIs intEnc intOk Tryz.prog 3 w4 (w.heap.size + 1 + 1 + 1) (l.length + 1) (updF F c (some v)) (l.length + 1)) (hg : w2.grownBy w4 (some (w.heap.size + 1 + 1 + 1)))
    (hl : lookC l c = none) (hf : foldC pre' [] = (some (l ++ [(c, p)]), 0, 0)) :
    KeepZ (fun b => Z b ∨ K b) W w4 ∧ Go.RowKit.Below w.heap.size W w4 ∧ cI w K Z pre' w4 := by
  have s2 := hb2.size
  have s4 := hg.size
  have F4 : ∀ k, k < W.heap.size → k ≠ w.heap.size + 1 + 1 + 1 → w4.heap[k]? = W.heap[k]? := fun k hk hne => (hg.block k (by omega) (fun e => hne (by injection e with e; try exact e.symm))).trans (hb2.block k hk)
  have hb4 : Go.RowKit.Below w.heap.size W w4 := ⟨hg.os.trans hb2.os, hg.tape.trans hb2.tape, hg.output.trans hb2.output, by omega, fun k hk => F4 k (by omega) (by omega)⟩
  refine ⟨fun b hb => F4 b (hZ b hb).2 (by have := hZ b hb; omega), hb4, l ++ [(c, p)], _, hf, (F4 _ (by omega) (by omega)).trans h2, (F4 _ (by omega) (by omega)).trans h3, (F4 _ (by omega) (by omega)).trans h4, (F4 _ (by omega) (by omega)).trans h5, (F4 _ (by omega) (by omega)).trans h6,
    by rw [List.length_append]; exact hM, ?_, hB.trans hb4, by omega, fun b hb => ⟨(hZ b hb).1, by have := hZ b hb; omega⟩⟩
  have mv : ∀ k, k ≠ w.heap.size + 1 + 1 + 1 → k < w2.heap.size → w4.heap[k]? = w2.heap[k]? := fun k hk hlt => hg.block k hlt (fun e => hk (by injection e with e; try exact e.symm))
  refine protosAt.snoc (hR.turn (fun v p h => Kd.R_mono (Kd.R_step (Kd.R_bound (Kd.R_below h hb2)) (fun k hk hlt => mv k (by have := hk.2.1; omega) hlt)) (fun k hk => hk.1))) c p v hl ?_
  exact Kd.R_lower (Kd.R_mono (Kd.R_step (Kd.R_bound hv) (fun k hk hlt => mv k (by have := hk.2.1; omega) hlt)) (fun k hk => ⟨(fun hz => by have := hk.2.1; have := hZ k (.inl hz); omega), (fun hz => by have := hk.2.1; have := hZ k (.inr hz); omega)⟩)) (by omega)
set_option maxHeartbeats 4000000 in
set_option maxRecDepth 100000 in
theorem parseC_calls (A : Option Addr) (c : Nat) (b : List UInt8) (w : World) (hr : Kd.C (Kd.int .u8) w A b.length (numB b)) (hl : b.length ≤ 100000) (T : Tabs w) :
    Calls Tryz.prog 59 #[.slice A b.length c] w fun e w' => ∃ p, e = .returned (.tuple #[p, .int .i64 (parseC b).2.1, .int .i64 (parseC b).2.2]) ∧ Go.RowKit.Below w.heap.size w w' ∧ resC w.heap.size (parseC b).1 p w' := by
  obtain ⟨m, hm⟩ := T.most
  refine (callsIn_wide (n := 4)).1 ?_
  refine callsIn_of_wp_marks Tryz.func59 rfl trivial ?_ rfl
  simp only [Tryz.ntmps59, List.size_toArray, List.length_cons, List.length_nil, Nat.reduceAdd, Nat.reduceSub, Array.replicate_succ, Array.replicate_zero, List.push_toArray, List.append_toArray, List.nil_append, List.cons_append]
  refine wpIn_wide.2 ?_
  have HR := Aside0.mk (And.intro hr (And.intro hl hm))
  clear hr hl hm
  have hmm := @run_makeMap Tryz.prog
  go_wp2_with (go_at_call 76; refine Aside0.out ?_)
  refine Aside0.mk ?_
  clear hmm
  obtain ⟨W0, hW0⟩ : ∃ W0, W0 = (((((w.alloc (.cells #[.pointer none] 56)).alloc (.cells #[.int .i64 0] 28)).alloc (.cells #[.int .i64 0] 3)).alloc (.map #[] 0)).alloc (.cells #[.map (some (w.heap.size + 1 + 1 + 1))] 91)).alloc (.cells #[.pointer (some ⟨w.heap.size + 1 + 1 + 1 + 1, 0, none⟩)] 56) := ⟨_, rfl⟩
  rw [← hW0]
  have up : ∀ (W : World) (o : Obj) (k : Nat) (u : Obj), W.heap[k]? = some u → (W.alloc o).heap[k]? = some u := fun W o k u h => (Go.RowKit.Below.heap_alloc _ _ _ (Array.getElem?_eq_some_iff.1 h).1).trans h
  have nw : ∀ (W : World) (o : Obj) (k : Nat), k = W.heap.size → (W.alloc o).heap[k]? = some (match o with | .cells cs ty sh => .cells cs ty sh | o => o) := fun W o k h => by subst h; rw [heap_alloc_new]; cases o <;> rfl
  have q0 : W0.heap[w.heap.size]? = some (.cells #[.pointer none] 56 (0, 0)) := by rw [hW0]; exact up _ _ _ _ (up _ _ _ _ (up _ _ _ _ (up _ _ _ _ (up _ _ _ _ (nw _ _ _ rfl)))))
  have q1 : W0.heap[w.heap.size + 1]? = some (.cells #[.int .i64 0] 28 (0, 0)) := by rw [hW0]; exact up _ _ _ _ (up _ _ _ _ (up _ _ _ _ (up _ _ _ _ (nw _ _ _ (by simp)))))
  have q2 : W0.heap[w.heap.size + 1 + 1]? = some (.cells #[.int .i64 0] 3 (0, 0)) := by rw [hW0]; exact up _ _ _ _ (up _ _ _ _ (up _ _ _ _ (nw _ _ _ (by simp))))
  have q4 : W0.heap[w.heap.size + 1 + 1 + 1 + 1]? = some (.cells #[.map (some (w.heap.size + 1 + 1 + 1))] 91 (0, 0)) := by rw [hW0]; exact up _ _ _ _ (nw _ _ _ (by simp))
  have q5 : W0.heap[w.heap.size + 1 + 1 + 1 + 1 + 1]? = some (.cells #[.pointer (some ⟨w.heap.size + 1 + 1 + 1 + 1, 0, none⟩)] 56 (0, 0)) := by rw [hW0]; exact nw _ _ _ (by simp)
  have qM : MapIs intEnc intOk Tryz.prog 3 W0 (w.heap.size + 1 + 1 + 1) 0 (fun _ => none) 0 := by
    have h := MapIs.made (enc := intEnc) (okk := intOk) (P := Tryz.prog) (k := 3) (((w.alloc (.cells #[.pointer none] 56)).alloc (.cells #[.int .i64 0] 28)).alloc (.cells #[.int .i64 0] 3))
    rw [World.size_alloc, World.size_alloc, World.size_alloc] at h
    rw [hW0]
    exact (h.below (below_alloc (Go.RowKit.Below.refl _ _) _)).below (below_alloc (Go.RowKit.Below.refl _ _) _)
  have hs0 : W0.heap.size = w.heap.size + 6 := by rw [hW0]; simp
  have hb0 : Go.RowKit.Below w.heap.size w W0 := by rw [hW0]; exact below_alloc (below_alloc (below_alloc (below_alloc (below_alloc (below_alloc (Go.RowKit.Below.refl _ _) _) _) _) _) _) _
  refine (lines_calls A c b W0 m (Kd.C_below HR.out.1 hb0) (by have := HR.out.2.1; omega) ((hb0.cell (p := ⟨1, 0, none⟩) (lt_of_cell HR.out.2.2)).trans HR.out.2.2)).mono ?_
  rintro e Wr ⟨Bc, B, rfl, g1, g2, g3, g4, hbr⟩
  obtain ⟨ls, hls⟩ : ∃ ls, ls = pieceB 10 ⟨b.toArray⟩ := ⟨_, rfl⟩
  rw [← hls] at g3 g4
  have hsz0 : (⟨b.toArray⟩ : ByteArray).size = b.length := by show b.toArray.size = _; simp
  have hll : ls.length ≤ 100001 := by
    have h1 := cutC_len 10 (⟨b.toArray⟩ : ByteArray).data.toList
    have h2 := HR.out.2.1
    rw [hls]
    simp [pieceB] at h1 ⊢
    omega
  have hlsz : ∀ x ∈ ls, x.size ≤ 1000000 := fun x hx => by
    have h1 := pieceB_size 10 _ x (hls ▸ hx)
    have h2 := HR.out.2.1
    omega
  have mcell : ∀ W, Go.RowKit.Below w.heap.size w W → W.cell? ⟨1, 0, none⟩ = some (.int .i64 m) := fun W h => (h.cell (p := ⟨1, 0, none⟩) (lt_of_cell HR.out.2.2)).trans HR.out.2.2
  have hbw : Go.RowKit.Below w.heap.size w Wr := hb0.trans (hbr.mono hb0.size)
  have hseq := lines_own (w := Wr) (Bc := Bc) (B := B) (n0 := w.heap.size) (m := m) (ls := ls) (mcell Wr hbw) (by have := T.size; omega) hbw.size g3 g4 (by omega) hlsz
  have tr : ∀ k u, W0.heap[k]? = some u → Wr.heap[k]? = some u := fun k u h => (hbr.block _ (Array.getElem?_eq_some_iff.1 h).1).trans h
  have HQ := Aside0.mk (And.intro (tr _ _ q0) (And.intro (tr _ _ q1) (And.intro (tr _ _ q2) (And.intro (tr _ _ q4) (And.intro (tr _ _ q5) (And.intro (qM.below hbr) (And.intro hbw (And.intro hbr.size hs0))))))))
  have HS := Aside0.mk (And.intro hseq (And.intro g1 (And.intro g2 (And.intro (blk_lt g3) (blk_lt g4)))))
  have HLS := Aside0.mk (And.intro hls (And.intro hll hlsz))
  clear hW0 up nw q0 q1 q2 q4 q5 qM hs0 hb0 hbr hls hll hlsz mcell hbw hseq tr g1 g2 g3 g4
  go_wp2
  refine (wpIn_wide (n := 4)).1 ?_
  have hsr : w.heap.size + 6 ≤ Wr.heap.size := by have := HQ.out.2.2.2.2.2.2.2.1; have := HQ.out.2.2.2.2.2.2.2.2; omega
  refine range_E (n := 4) (by omega) (gf := 95) (lb := #[.pointer (some ⟨Bc, 0, none⟩)]) rfl (enters_of Tryz.func95 (by kernel_rfl) rfl) (lineE_abides w.heap.size) HS.out.1 (Go.RowKit.Below.refl _ _) (by omega) (fun b hb => hb.elim) (fun b hb => by rcases hb with rfl | rfl; exact HS.out.2.2.2.1; exact HS.out.2.2.2.2) (fun Z x us W h => by obtain ⟨v, rfl, _⟩ := h; rfl)
    (cI w (fun b => b = Bc ∨ b = B))
    (fun Z q W => ∃ Lv vl, q.2.2 = { tmps := #[.slice A b.length c, undef, .pointer (some ⟨w.heap.size, 0, none⟩), .pointer (some ⟨w.heap.size + 1, 0, none⟩), .pointer (some ⟨w.heap.size + 1 + 1, 0, none⟩), .pointer (some ⟨w.heap.size + 1 + 1 + 1 + 1 + 1, 0, none⟩), .pointer (some ⟨Lv, 0, none⟩), undef, undef, undef, undef, undef, .map (some (w.heap.size + 1 + 1 + 1)), .agg #[.map (some (w.heap.size + 1 + 1 + 1))], .pointer (some ⟨w.heap.size + 1 + 1 + 1 + 1, 0, none⟩), .slice A b.length c, .func (.func 95) #[] #[.pointer (some ⟨Bc, 0, none⟩)], .agg #[.int .i64 (q.2.1.1 : Int), vl], undef, undef, undef, undef, undef, undef, undef, undef, undef, undef, undef, undef, undef, undef, undef, undef, undef, undef, undef, undef, undef, undef, undef, undef, undef, undef, undef, undef, undef, undef, undef, undef, undef], defers := [] } ∧ cI w (fun b => b = Bc ∨ b = B) Z q.1 W ∧ uL w (fun b => b = Bc ∨ b = B) Z q.2.1 Lv vl W ∧ w.heap.size + 6 ≤ Lv ∧ Lv ≠ Bc ∧ Lv ≠ B)
    (fun cd q W => cd = Code.ret ∧ ∃ t : Int × Int, t.1 ≠ 0 ∧ foldC (linesOf 0 ls) [] = (none, t.1, t.2) ∧ W.heap[w.heap.size]? = some (.cells #[.pointer none] 56 (0, 0)) ∧ W.heap[w.heap.size + 1]? = some (.cells #[.int .i64 t.1] 28 (0, 0)) ∧ W.heap[w.heap.size + 1 + 1]? = some (.cells #[.int .i64 t.2] 3 (0, 0)) ∧ Go.RowKit.Below w.heap.size w W)
    (fun Z Z' q A B row h hg hr hz => cI_turn h hg hr hz) ?ax ?ix ?h0 ?assign ?body ?done ?stop
  case ax =>
    rintro Z Z' ⟨pre, x, a'⟩ A B row ⟨Lv, vl, e, h, h2, h3⟩ hg hr hz
    exact ⟨Lv, vl, e, cI_turn h hg hr hz, uL_turn h2 hg hr hz, h3⟩
  case ix =>
    rintro cc q W lp r o hlp hl ⟨h1, t, h2, h3, h4, h5, h6, h7⟩
    exact ⟨h1, t, h2, h3, (World.putObj_heap_other (by omega)).trans h4, (World.putObj_heap_other (by omega)).trans h5, (World.putObj_heap_other (by omega)).trans h6, h7.trans (below_put _ _ _ _ (by omega))⟩
  case h0 =>
    obtain ⟨r0, r1, r2, r4, r5, rM, hbw, hbr, hs0⟩ := HQ.out
    have hS := HS.out
    refine ⟨[], fun _ => none, rfl, r0, r1, r2, r4, r5, rM, fun c => rfl, hbw, hsr, fun b hb => ?_⟩
    rcases hb with hb | hb | hb
    · exact hb.elim
    · rw [hb]; exact ⟨by have := hS.2.1; omega, hS.2.2.2.1⟩
    · rw [hb]; exact ⟨by have := hS.2.2.1; omega, hS.2.2.2.2⟩
  case assign =>
    rintro lp Z pre x r us W Kc hI hx2 ⟨vl, rfl, hvl⟩ hK2
    have HI := Aside0.mk (And.intro hI hvl)
    clear hI hx2 hvl
    obtain ⟨A5, c5, rfl⟩ := Kd.R_slice HI.out.2
    gi_wp2
    obtain ⟨l5, F5, f1, d0, d1, d2, d4, d5, dM, dR, dB, dP, dZ⟩ := HI.out.1
    refine hK2 _ _ (fun b hb => Go.RowKit.Below.heap_alloc _ _ _ (dZ b hb).2) (below_alloc (Go.RowKit.Below.refl _ _) _ |>.mono dB.size) ⟨W.heap.size, _, rfl, cI_turn HI.out.1 (grown_alloc W _) (fun r e => by cases e) (fun b hb => .inl hb), ⟨heap_alloc_new _ _, (fun h => by have := (dZ _ (.inl h)).2; omega), Kd.R_alloc HI.out.2 _⟩, dP, (fun h => by have := (dZ Bc (.inr (.inl rfl))).2; omega), (fun h => by have := (dZ B (.inr (.inr rfl))).2; omega)⟩
  case body =>
    rintro lp Z pre x r a' W ⟨Lv, vl, ha, hI, hL, h5, hnb, hnB⟩ hx2
    dsimp only at ha hI hL
    subst ha
    obtain ⟨l5, F5, f1, d0, d1, d2, d4, d5, dM, dR, dB, dP, dZ⟩ := hI
    obtain ⟨A5, c5, rfl⟩ := Kd.R_slice hL.2.2
    have hpre : pre.length ≤ 100001 := by
      have h1 := congrArg List.length hx2
      have h2 := linesOf_len ls 0
      have h3 := HLS.out.2.1
      simp at h1
      omega
    have hl5 : l5.length ≤ 100001 := by have := (foldC_len pre [] l5 0 0 f1).1; simp at this; omega
    have hfs : ∀ y ∈ x.2, y.size ≤ 1000000 := fun y hy => linesOf_size ls 0 1000000 HLS.out.2.2 x (by rw [hx2]; simp) y hy
    obtain ⟨-, hc5, hC5⟩ : ∃ _ : True, x.2.length ≤ c5 ∧ Kd.C Kd.string W A5 x.2.length x.2 := by
      obtain ⟨A', c', he, h1, h2⟩ := Kd.R_reads hL.2.2
      injection he with e1 e2 e3
      subst e1 e3
      exact ⟨trivial, h1, h2⟩
    obtain ⟨n, xs⟩ := x
    dsimp only at hfs hC5 hc5
    have hsp := lineC_spec xs hfs
    have hfold := foldC_snoc pre [] l5 ((n, xs) :: r) f1
    have hfold1 := foldC_snoc pre [] l5 [(n, xs)] f1
    rw [← hx2] at hfold
    rw [foldC] at hfold hfold1
    obtain ⟨t, ht⟩ : ∃ t, t = lineC xs := ⟨_, rfl⟩
    rw [← ht] at hsp hfold hfold1
    obtain ⟨c0, p0, t2⟩ := t
    dsimp only at hsp hfold hfold1
    have CT := Go.Proofs.YtebgebgkieglhaaGreatDoor.PU.confus_line.calls 1 A5 c5 xs c0 p0 t2 W hC5 hc5 hsp.1 (T.below dB)
    have hc0 := hsp.2.1
    have hc1 := hsp.2.2
    have l0 : W.cell? ⟨Lv, 0, none⟩ = some _ := (blk_cell hL.1 0).trans rfl
    have l1 : W.cell? ⟨Lv, 1, none⟩ = some _ := (blk_cell hL.1 1).trans rfl
    have hLl := blk_lt hL.1
    have HCT := Aside0.mk CT
    have HX := Aside0.mk (And.intro hx2 (And.intro hfold hfold1))
    have hsome := dR.isSome c0
    have HD := Aside0.mk (And.intro d0 (And.intro d1 (And.intro d2 (And.intro d4 (And.intro d5 (And.intro dM (And.intro dR (And.intro dB (And.intro dP dZ)))))))))
    clear CT hx2 hfold hfold1 f1 d0 d1 d2 d4 d5 dM dR dB dP dZ hfs ht hL hC5 hsp
    have hlsz9 : l5.length < 1000000 := by omega
    cases hlk : lookC l5 c0 with
    | none =>
      rw [hlk] at hsome
      have HSM := Aside0.mk (show (F5 c0).isSome = false from hsome)
      have HLK := Aside0.mk hlk
      clear hsome hlk
      by_cases he : t2 = 0
      · have heb : (t2 == 0) = true := beq_iff_eq.2 he
        have heb2 : (t2 != 0) = false := bne_eq_false_iff_eq.2 he
        gi_wp2_with (first | (refine ⟨trivial, ?_⟩; gi_at_call 81; refine (CallsIn.inRound lp (callsIn_wide.2 HCT.out)).mono ?_; rintro e2 w2 ⟨v2, rfl, hv2, hb2⟩; obtain ⟨A6, c6, rfl⟩ := Kd.R_slice hv2; have F : ∀ k cs ty, W.heap[k]? = some (Obj.cells cs ty (0, 0)) → w2.heap[k]? = some (Obj.cells cs ty (0, 0)) := (fun k cs ty h => (hb2.block _ (blk_lt h)).trans h); have k1 := F _ _ _ HD.out.1; have k2 := F _ _ _ HD.out.2.1; have k3 := F _ _ _ HD.out.2.2.1; have y1 : w2.cell? ⟨w.heap.size, 0, none⟩ = some _ := (blk_cell k1 0).trans rfl; have y2 : w2.cell? ⟨w.heap.size + 1, 0, none⟩ = some _ := (blk_cell k2 0).trans rfl; have y3 : w2.cell? ⟨w.heap.size + 1 + 1, 0, none⟩ = some _ := (blk_cell k3 0).trans rfl; have y4 : w2.cell? ⟨w.heap.size + 1 + 1 + 1 + 1, 0, none⟩ = some _ := (blk_cell (F _ _ _ HD.out.2.2.2.1) 0).trans rfl; have y5 : w2.cell? ⟨w.heap.size + 1 + 1 + 1 + 1 + 1, 0, none⟩ = some _ := (blk_cell (F _ _ _ HD.out.2.2.2.2.1) 0).trans rfl; have z1 := blk_frozen k1 0; have z2 := blk_frozen k2 0; have z3 := blk_frozen k3 0; have m0 := cell_up hb2 l0; have hM2 := HD.out.2.2.2.2.2.1.below hb2; have H2 := Aside0.mk (And.intro hb2 (And.intro hv2 (And.intro k1 (And.intro k2 (And.intro k3 hM2))))); clear hb2 hv2 F k1 k2 k3 hM2) | (gi_at_lookup; refine wpListIn_look _ rfl _ _ 89 rfl 3 38 (Go.Maps.int_keyed Tryz.underlying3) Tryz.underlying89 (zero38 _) _ _ _ _ H2.out.2.2.2.2.2 c0 (intOk_of (by omega) (by omega)) (intKey Tryz.underlying3 (intOk_of (by omega) (by omega))) rfl rfl ?_; rw [HSM.out]; generalize (F5 c0).getD _ = v9) | (gi_at_mapUpdate; refine wpListIn_upd _ rfl _ _ _ 89 rfl 3 38 (Go.Maps.int_keyed Tryz.underlying3) intInj Tryz.underlying89 _ _ _ _ H2.out.2.2.2.2.2 (by unfold maxLen; omega) c0 (intOk_of (by omega) (by omega)) (intKey Tryz.underlying3 (intOk_of (by omega) (by omega))) rfl rfl _ rfl ?_; intro w4 hM4 hg4; rw [HSM.out] at hM4; have H4 := Aside0.mk (And.intro hM4 hg4); clear hM4 hg4))
        obtain ⟨hb2, hv2, k1, k2, k3, hM2⟩ := H2.out
        obtain ⟨d0, d1, d2, d4, d5, dM, dR, dB, dP, dZ⟩ := HD.out
        exact cI_next d0 d1 d2 d4 d5 dR dB dP dZ hb2 hv2 H4.out.1 H4.out.2 HLK.out (by
          have h := HX.out.2.2
          rw [if_pos he, HLK.out, if_neg (by decide)] at h
          exact h)
      · have heb : (t2 == 0) = false := beq_eq_false_iff_ne.2 he
        have heb2 : (t2 != 0) = true := bne_iff_ne.2 he
        gi_wp2_with (first | (refine ⟨trivial, ?_⟩; gi_at_call 81; refine (CallsIn.inRound lp (callsIn_wide.2 HCT.out)).mono ?_; rintro e2 w2 ⟨v2, rfl, hv2, hb2⟩; obtain ⟨A6, c6, rfl⟩ := Kd.R_slice hv2; have F : ∀ k cs ty, W.heap[k]? = some (Obj.cells cs ty (0, 0)) → w2.heap[k]? = some (Obj.cells cs ty (0, 0)) := (fun k cs ty h => (hb2.block _ (blk_lt h)).trans h); have k1 := F _ _ _ HD.out.1; have k2 := F _ _ _ HD.out.2.1; have k3 := F _ _ _ HD.out.2.2.1; have y1 : w2.cell? ⟨w.heap.size, 0, none⟩ = some _ := (blk_cell k1 0).trans rfl; have y2 : w2.cell? ⟨w.heap.size + 1, 0, none⟩ = some _ := (blk_cell k2 0).trans rfl; have y3 : w2.cell? ⟨w.heap.size + 1 + 1, 0, none⟩ = some _ := (blk_cell k3 0).trans rfl; have y4 : w2.cell? ⟨w.heap.size + 1 + 1 + 1 + 1, 0, none⟩ = some _ := (blk_cell (F _ _ _ HD.out.2.2.2.1) 0).trans rfl; have y5 : w2.cell? ⟨w.heap.size + 1 + 1 + 1 + 1 + 1, 0, none⟩ = some _ := (blk_cell (F _ _ _ HD.out.2.2.2.2.1) 0).trans rfl; have z1 := blk_frozen k1 0; have z2 := blk_frozen k2 0; have z3 := blk_frozen k3 0; have m0 := cell_up hb2 l0; have hM2 := HD.out.2.2.2.2.2.1.below hb2; have H2 := Aside0.mk (And.intro hb2 (And.intro hv2 (And.intro k1 (And.intro k2 (And.intro k3 hM2))))); clear hb2 hv2 F k1 k2 k3 hM2) | (gi_at_lookup; refine wpListIn_look _ rfl _ _ 89 rfl 3 38 (Go.Maps.int_keyed Tryz.underlying3) Tryz.underlying89 (zero38 _) _ _ _ _ H2.out.2.2.2.2.2 c0 (intOk_of (by omega) (by omega)) (intKey Tryz.underlying3 (intOk_of (by omega) (by omega))) rfl rfl ?_; rw [HSM.out]; generalize (F5 c0).getD _ = v9))
        gi_region
        all_goals (
          gi_wp2
          obtain ⟨hb2, hv2, k1, k2, k3, hM2⟩ := H2.out
          obtain ⟨d0, d1, d2, d4, d5, dM, dR, dB, dP, dZ⟩ := HD.out
          obtain ⟨s1, s2, s3, s4, s5⟩ := stop3C (W := W) (t := t2) (n := n) (K := fun b => b = Bc ∨ b = B) (Z := Z) (dB.trans (hb2.mono dB.size)) (fun b_ _ hlt => hb2.block b_ hlt) dZ k1 k2 k3
          refine ⟨s1, rfl, (t2, (n : Int)), he, ?_, s2, s3, s4, s5⟩
          have h := HX.out.2.1
          rw [if_neg he] at h
          exact h)
    | some p1 =>
      rw [hlk] at hsome
      have HSM := Aside0.mk (show (F5 c0).isSome = true from hsome)
      have HLK := Aside0.mk hlk
      clear hsome hlk
      by_cases he : t2 = 0
      · have heb : (t2 == 0) = true := beq_iff_eq.2 he
        have heb2 : (t2 != 0) = false := bne_eq_false_iff_eq.2 he
        gi_wp2_with (first | (refine ⟨trivial, ?_⟩; gi_at_call 81; refine (CallsIn.inRound lp (callsIn_wide.2 HCT.out)).mono ?_; rintro e2 w2 ⟨v2, rfl, hv2, hb2⟩; obtain ⟨A6, c6, rfl⟩ := Kd.R_slice hv2; have F : ∀ k cs ty, W.heap[k]? = some (Obj.cells cs ty (0, 0)) → w2.heap[k]? = some (Obj.cells cs ty (0, 0)) := (fun k cs ty h => (hb2.block _ (blk_lt h)).trans h); have k1 := F _ _ _ HD.out.1; have k2 := F _ _ _ HD.out.2.1; have k3 := F _ _ _ HD.out.2.2.1; have y1 : w2.cell? ⟨w.heap.size, 0, none⟩ = some _ := (blk_cell k1 0).trans rfl; have y2 : w2.cell? ⟨w.heap.size + 1, 0, none⟩ = some _ := (blk_cell k2 0).trans rfl; have y3 : w2.cell? ⟨w.heap.size + 1 + 1, 0, none⟩ = some _ := (blk_cell k3 0).trans rfl; have y4 : w2.cell? ⟨w.heap.size + 1 + 1 + 1 + 1, 0, none⟩ = some _ := (blk_cell (F _ _ _ HD.out.2.2.2.1) 0).trans rfl; have y5 : w2.cell? ⟨w.heap.size + 1 + 1 + 1 + 1 + 1, 0, none⟩ = some _ := (blk_cell (F _ _ _ HD.out.2.2.2.2.1) 0).trans rfl; have z1 := blk_frozen k1 0; have z2 := blk_frozen k2 0; have z3 := blk_frozen k3 0; have m0 := cell_up hb2 l0; have hM2 := HD.out.2.2.2.2.2.1.below hb2; have H2 := Aside0.mk (And.intro hb2 (And.intro hv2 (And.intro k1 (And.intro k2 (And.intro k3 hM2))))); clear hb2 hv2 F k1 k2 k3 hM2) | (gi_at_lookup; refine wpListIn_look _ rfl _ _ 89 rfl 3 38 (Go.Maps.int_keyed Tryz.underlying3) Tryz.underlying89 (zero38 _) _ _ _ _ H2.out.2.2.2.2.2 c0 (intOk_of (by omega) (by omega)) (intKey Tryz.underlying3 (intOk_of (by omega) (by omega))) rfl rfl ?_; rw [HSM.out]; generalize (F5 c0).getD _ = v9))
        gi_region
        all_goals (
          gi_wp2
          obtain ⟨hb2, hv2, k1, k2, k3, hM2⟩ := H2.out
          obtain ⟨d0, d1, d2, d4, d5, dM, dR, dB, dP, dZ⟩ := HD.out
          obtain ⟨s1, s2, s3, s4, s5⟩ := stop3C (W := W) (t := 15) (n := n) (K := fun b => b = Bc ∨ b = B) (Z := Z) (dB.trans (hb2.mono dB.size)) (fun b_ _ hlt => hb2.block b_ hlt) dZ k1 k2 k3
          refine ⟨s1, rfl, (15, (n : Int)), (by show (15 : Int) ≠ 0; decide), ?_, s2, s3, s4, s5⟩
          have h := HX.out.2.1
          rw [if_pos he, HLK.out, if_pos (show (some p1).isSome = true from rfl)] at h
          exact h)
      · have heb : (t2 == 0) = false := beq_eq_false_iff_ne.2 he
        have heb2 : (t2 != 0) = true := bne_iff_ne.2 he
        gi_wp2_with (first | (refine ⟨trivial, ?_⟩; gi_at_call 81; refine (CallsIn.inRound lp (callsIn_wide.2 HCT.out)).mono ?_; rintro e2 w2 ⟨v2, rfl, hv2, hb2⟩; obtain ⟨A6, c6, rfl⟩ := Kd.R_slice hv2; have F : ∀ k cs ty, W.heap[k]? = some (Obj.cells cs ty (0, 0)) → w2.heap[k]? = some (Obj.cells cs ty (0, 0)) := (fun k cs ty h => (hb2.block _ (blk_lt h)).trans h); have k1 := F _ _ _ HD.out.1; have k2 := F _ _ _ HD.out.2.1; have k3 := F _ _ _ HD.out.2.2.1; have y1 : w2.cell? ⟨w.heap.size, 0, none⟩ = some _ := (blk_cell k1 0).trans rfl; have y2 : w2.cell? ⟨w.heap.size + 1, 0, none⟩ = some _ := (blk_cell k2 0).trans rfl; have y3 : w2.cell? ⟨w.heap.size + 1 + 1, 0, none⟩ = some _ := (blk_cell k3 0).trans rfl; have y4 : w2.cell? ⟨w.heap.size + 1 + 1 + 1 + 1, 0, none⟩ = some _ := (blk_cell (F _ _ _ HD.out.2.2.2.1) 0).trans rfl; have y5 : w2.cell? ⟨w.heap.size + 1 + 1 + 1 + 1 + 1, 0, none⟩ = some _ := (blk_cell (F _ _ _ HD.out.2.2.2.2.1) 0).trans rfl; have z1 := blk_frozen k1 0; have z2 := blk_frozen k2 0; have z3 := blk_frozen k3 0; have m0 := cell_up hb2 l0; have hM2 := HD.out.2.2.2.2.2.1.below hb2; have H2 := Aside0.mk (And.intro hb2 (And.intro hv2 (And.intro k1 (And.intro k2 (And.intro k3 hM2))))); clear hb2 hv2 F k1 k2 k3 hM2) | (gi_at_lookup; refine wpListIn_look _ rfl _ _ 89 rfl 3 38 (Go.Maps.int_keyed Tryz.underlying3) Tryz.underlying89 (zero38 _) _ _ _ _ H2.out.2.2.2.2.2 c0 (intOk_of (by omega) (by omega)) (intKey Tryz.underlying3 (intOk_of (by omega) (by omega))) rfl rfl ?_; rw [HSM.out]; generalize (F5 c0).getD _ = v9))
        gi_region
        all_goals (
          gi_wp2
          obtain ⟨hb2, hv2, k1, k2, k3, hM2⟩ := H2.out
          obtain ⟨d0, d1, d2, d4, d5, dM, dR, dB, dP, dZ⟩ := HD.out
          obtain ⟨s1, s2, s3, s4, s5⟩ := stop3C (W := W) (t := t2) (n := n) (K := fun b => b = Bc ∨ b = B) (Z := Z) (dB.trans (hb2.mono dB.size)) (fun b_ _ hlt => hb2.block b_ hlt) dZ k1 k2 k3
          refine ⟨s1, rfl, (t2, (n : Int)), he, ?_, s2, s3, s4, s5⟩
          have h := HX.out.2.1
          rw [if_neg he] at h
          exact h)
  case done =>
    rintro Z W hI hDf
    obtain ⟨l5, F5, f1, d0, d1, d2, d4, d5, dM, dR, dB, dP, dZ⟩ := hI
    have e5 : W.cell? ⟨w.heap.size + 1 + 1 + 1 + 1 + 1, 0, none⟩ = some _ := (blk_cell d5 0).trans rfl
    have y0 : W.cell? ⟨w.heap.size, 0, none⟩ = some _ := (blk_cell d0 0).trans rfl
    have y1 : W.cell? ⟨w.heap.size + 1, 0, none⟩ = some _ := (blk_cell d1 0).trans rfl
    have y2 : W.cell? ⟨w.heap.size + 1 + 1, 0, none⟩ = some _ := (blk_cell d2 0).trans rfl
    have z0 := blk_frozen d0 0
    have z1 := blk_frozen d1 0
    have z2 := blk_frozen d2 0
    have HI := Aside0.mk (And.intro f1 (And.intro d0 (And.intro d1 (And.intro d2 (And.intro d4 (And.intro dM (And.intro dR (And.intro dB dP))))))))
    have HDf := Aside0.mk hDf
    clear f1 d0 d1 d2 d4 d5 dM dR dB dP dZ hDf
    have hpu : parseC b = (some l5, 0, 0) := by
      unfold parseC
      rw [← HLS.out.1, HI.out.1]
    have HPU := Aside0.mk hpu
    clear hpu
    gi_wp2
    go_wp2
    rw [HPU.out]
    obtain ⟨f1, d0, d1, d2, d4, dM, dR, dB, dP⟩ := HI.out
    obtain ⟨j0, j1, j2, jf⟩ := three_cells (a' := .pointer (some ⟨w.heap.size + 1 + 1 + 1 + 1, 0, none⟩)) (b' := .int .i64 0) (c' := .int .i64 0) d0 d1 d2
    obtain ⟨W6, hW6⟩ : ∃ W6, W6 = ((W.setCell ⟨w.heap.size, 0, none⟩ (.pointer (some ⟨w.heap.size + 1 + 1 + 1 + 1, 0, none⟩))).setCell ⟨w.heap.size + 1, 0, none⟩ (.int .i64 0)).setCell ⟨w.heap.size + 1 + 1, 0, none⟩ (.int .i64 0) := ⟨_, rfl⟩
    rw [← hW6] at j0 j1 j2 jf ⊢
    have hDl : Wr.heap.size < W.heap.size := (Array.getElem?_eq_some_iff.1 HDf.out).1
    have hD6 : W6.heap[Wr.heap.size]? = some (.deferred (some [])) := (jf _ (by omega) (by omega) (by omega)).trans HDf.out
    have b6 : Go.RowKit.Below w.heap.size w W6 := by
      rw [hW6]
      exact ((dB.setCell (p := ⟨w.heap.size, 0, none⟩) (Nat.le_refl _) _).setCell (p := ⟨w.heap.size + 1, 0, none⟩) (by show w.heap.size ≤ w.heap.size + 1; omega) _).setCell (p := ⟨w.heap.size + 1 + 1, 0, none⟩) (by show w.heap.size ≤ w.heap.size + 1 + 1; omega) _
    refine ⟨by simp, .inl ⟨_, _, rfl, run_takeDeferred hD6, ?_⟩⟩
    have mv : ∀ k, k ≠ Wr.heap.size → w.heap.size + 3 ≤ k → (W6.putObj Wr.heap.size (.deferred none)).heap[k]? = W.heap[k]? := fun k h1 h2 => (World.putObj_heap_other h1).trans (jf k (by omega) (by omega) (by omega))
    refine ⟨_, results_three rfl Tryz.underlying56 _ _ ⟨w.heap.size, 0, none⟩ ⟨w.heap.size + 1, 0, none⟩ ⟨w.heap.size + 1 + 1, 0, none⟩ (some ⟨w.heap.size + 1 + 1 + 1 + 1, 0, none⟩) 0 0 rfl rfl rfl ?_ ?_ ?_, _, rfl, b6.trans (below_put W6 Wr.heap.size w.heap.size _ (by omega)), w.heap.size + 1 + 1 + 1 + 1, rfl, w.heap.size + 1 + 1 + 1, F5, (mv _ (by omega) (by omega)).trans d4, by omega, by omega, by omega, dM.block (mv _ (by omega) (by omega)), dR.turn (fun v p h => ?_)⟩
    · exact (blk_cell ((World.putObj_heap_other (by omega)).trans j0) 0).trans rfl
    · exact (blk_cell ((World.putObj_heap_other (by omega)).trans j1) 0).trans rfl
    · exact (blk_cell ((World.putObj_heap_other (by omega)).trans j2) 0).trans rfl
    · refine Kd.R_lower (Kd.R_mono (Kd.R_step (Kd.R_bound h) (fun k hk hlt => ?_)) (fun k hk => by have := hk.2.1; exact ⟨by omega, by omega⟩)) (by omega)
      have hkD : k ≠ Wr.heap.size := fun e => by
        obtain ⟨q, _, cells, hc⟩ := hk.2.2.2
        rw [e, HDf.out] at hc
        cases hc
      have hkb := hk.2.1
      exact mv k hkD (by omega)
  case stop =>
    rintro cc pre x r W hx2 ⟨rfl, t, h1, h2, h3, h4, h5, h6⟩ hDf
    have hpu : parseC b = (none, t.1, t.2) := by
      unfold parseC
      rw [← HLS.out.1, h2]
    gi_wp2
    go_wp2
    rw [hpu]
    refine ⟨by simp, .inl ⟨_, _, rfl, run_takeDeferred hDf, ?_⟩⟩
    refine ⟨_, results_three rfl Tryz.underlying56 _ _ ⟨w.heap.size, 0, none⟩ ⟨w.heap.size + 1, 0, none⟩ ⟨w.heap.size + 1 + 1, 0, none⟩ none t.1 t.2 rfl rfl rfl ?_ ?_ ?_, _, rfl, h6.trans (below_put W Wr.heap.size w.heap.size _ (by omega)), rfl⟩
    · exact (blk_cell ((World.putObj_heap_other (by omega)).trans h3) 0).trans rfl
    · exact (blk_cell ((World.putObj_heap_other (by omega)).trans h4) 0).trans rfl
    · exact (blk_cell ((World.putObj_heap_other (by omega)).trans h5) 0).trans rfl
end Go.Proofs.YtebgebgkieglhaaGreatDoor.FieldW
end
section
/- data: what unicode.Parse gives, in plain words. -/
namespace Go.Proofs.YtebgebgkieglhaaGreatDoor.FieldW
open Go.RowKit Go.Shelf Go.Lib Go.Proofs Go.Proofs.YtebgebgkieglhaaGreatDoorW.PrintWords Go.Proofs.YtebgebgkieglhaaGreatDoorW.PrintLast Go.Proofs.YtebgebgkieglhaaGreatDoorW.PrintMore Go.Proofs.YtebgebgkieglhaaGreatDoor.PRef
set_option linter.unusedVariables false
set_option linter.unusedSimpArgs false

/-- A row as unicode.Parse gives it. -/
def goodR (r : URow) : Prop := 0 ≤ r.first ∧ r.first ≤ r.last ∧ r.last ≤ 1114111 ∧ r.dec.length ≤ 2 ∧ ∀ x ∈ r.dec, 0 ≤ x ∧ x ≤ 1114111
theorem seqL_good : ∀ (ps : List (List UInt8)) (l : List Int), seqL ps = some l → ∀ x ∈ l, 0 ≤ x ∧ x ≤ 1114111
  | [], l, h => by rw [seqL] at h; injection h with h; subst h; intro x hx; cases hx
  | p :: r, l, h => by
    rw [seqL] at h
    cases hp : pointS p with
    | none => rw [hp] at h; cases h
    | some c =>
      rw [hp, Option.bind_some] at h
      cases hs : seqL r with
      | none => rw [hs] at h; cases h
      | some l2 =>
        rw [hs, Option.map_some] at h
        injection h with h
        subst h
        intro x hx
        rcases List.mem_cons.1 hx with rfl | hx
        · have := pointS_le hp; omega
        · exact seqL_good r l2 hs x hx
theorem seqS_good (s : List UInt8) : ∀ x ∈ (seqS s).1, 0 ≤ x ∧ x ≤ 1114111 := by
  unfold seqS
  split
  · intro x hx; cases hx
  · split
    · intro x hx; cases hx
    · rename_i l h
      exact seqL_good _ l h
theorem decomp_good {x : ByteArray} {l : List Int} (h : Go.Proofs.YtebgebgkieglhaaGreatDoor.PU.unicode_decomp.f x = some (l, 0)) : l.length ≤ 2 ∧ ∀ y ∈ l, 0 ≤ y ∧ y ≤ 1114111 := by
  unfold Go.Proofs.YtebgebgkieglhaaGreatDoor.PU.unicode_decomp.f Go.Proofs.YtebgebgkieglhaaGreatDoor.PlugU.strings_HasPrefix.f Go.Proofs.YtebgebgkieglhaaGreatDoor.PlugU.field_Sequence.f at h
  rw [Option.bind_some] at h
  split at h
  · injection h with h; injection h with h _; subst h; exact ⟨by simp, fun y hy => by cases hy⟩
  · split at h
    · rw [Option.bind_some] at h
      have hg := seqS_good x.data.toList
      split at h
      · split at h
        · injection h with h; injection h with _ h; omega
        · injection h with h; injection h with h _; subst h; exact ⟨by omega, hg⟩
      · injection h with h; injection h with h h2; omega
    · cases h
theorem row_j0_good {l : List ByteArray} {c k : Int} {b : Bool} {t : Int × Int × ByteArray × Int × ByteArray × List Int × Int} (h : Go.Proofs.YtebgebgkieglhaaGreatDoor.PU.unicode_row.j0 1 l c k b = some t) (h0 : t.2.2.2.2.2.2 = 0) :
    t.1 = c ∧ t.2.1 = c ∧ t.2.2.2.2.2.1.length ≤ 2 ∧ ∀ y ∈ t.2.2.2.2.2.1, 0 ≤ y ∧ y ≤ 1114111 := by
  rw [Go.Proofs.YtebgebgkieglhaaGreatDoor.PU.unicode_row.j0] at h
  split at h
  · injection h with h; subst h; exact absurd h0 (by decide)
  · split at h
    · cases hd : Go.Proofs.YtebgebgkieglhaaGreatDoor.PU.unicode_decomp.f (rdOf ByteArray.empty l 5) with
      | none => rw [hd] at h; cases h
      | some d =>
        rw [hd, Option.bind_some] at h
        obtain ⟨d1, d2⟩ := d
        dsimp only at h
        split at h
        · rename_i hz
          subst hz
          have hg := decomp_good hd
          split at h
          · split at h
            · injection h with h; subst h; exact ⟨rfl, rfl, hg⟩
            · cases h
          · cases h
        · rename_i hz
          injection h with h; subst h; exact absurd h0 hz
    · cases h
theorem rowS_good (l : List ByteArray) (hsz : ∀ x ∈ l, x.size ≤ 1000000) (h0 : (rowS l).2 = 0) : goodR (rowS l).1 ∧ (rowS l).1.first = (rowS l).1.last := by
  have h := rowS_eq l hsz
  obtain ⟨c, e, hp, hc⟩ := point_bound (rdOf ByteArray.empty l 0)
  obtain ⟨t, ht⟩ : ∃ t, t = ((rowS l).1.first, (rowS l).1.last, (rowS l).1.gc, (rowS l).1.ccc, (rowS l).1.bidi, (rowS l).1.dec, (rowS l).2) := ⟨_, rfl⟩
  rw [← ht] at h
  have ht0 : t.2.2.2.2.2.2 = 0 := by rw [ht]; exact h0
  have key : t.1 = c ∧ t.2.1 = c ∧ t.2.2.2.2.2.1.length ≤ 2 ∧ ∀ y ∈ t.2.2.2.2.2.1, 0 ≤ y ∧ y ≤ 1114111 := by
    unfold Go.Proofs.YtebgebgkieglhaaGreatDoor.PU.unicode_row.f at h
    rw [hp, Option.bind_some] at h
    have nz : ∀ (e : Int), e ≠ 0 → some (0, 0, (⟨#[]⟩ : ByteArray), 0, (⟨#[]⟩ : ByteArray), ([] : List Int), e) = some t → False := fun e he h => by
      injection h with h; subst h; exact he ht0
    split at h
    · split at h
      · split at h
        · split at h
          · cases hq : Go.Proofs.YtebgebgkieglhaaGreatDoor.PlugU.unicode_class.f (rdOf ByteArray.empty l 3) with
            | none => rw [hq] at h; cases h
            | some q =>
              rw [hq, Option.bind_some] at h
              split at h
              · cases hg : Go.Proofs.YtebgebgkieglhaaGreatDoor.PlugU.unicode_category.f (rdOf ByteArray.empty l 2) with
                | none => rw [hg] at h; cases h
                | some g =>
                  rw [hg, Option.bind_some] at h
                  split at h
                  · split at h
                    · split at h
                      · split at h
                        · exact row_j0_good h ht0
                        · split at h
                          · exact row_j0_good h ht0
                          · cases hk : Go.Proofs.YtebgebgkieglhaaGreatDoor.PlugU.unicode_letters.f (rdOf ByteArray.empty l 4) 65 90 with
                            | none => rw [hk] at h; cases h
                            | some k => rw [hk, Option.bind_some] at h; exact row_j0_good h ht0
                      · cases h
                    · exact row_j0_good h ht0
                  · exact row_j0_good h ht0
              · cases h
          · cases h
        · rename_i hz; exact absurd h (fun h => nz _ hz h)
      · cases h
    · exact absurd h (fun h => nz 12 (by decide) h)
  rw [ht] at key
  obtain ⟨k1, k2, k3, k4⟩ := key
  dsimp only at k1 k2 k3 k4
  exact ⟨⟨by omega, by omega, by omega, k3, k4⟩, by omega⟩
/-- The rows are good, and rise. -/
def goodS (rs : List URow) : Prop := RisingR rs ∧ ∀ r ∈ rs, goodR r
theorem rising_snoc {rs : List URow} {r : URow} (h : goodS rs) (hr : goodR r) (hl : ∀ o, rs.getLast? = some o → o.last < r.first) : goodS (rs ++ [r]) := by
  refine ⟨⟨?_, ?_⟩, ?_⟩
  · rw [List.pairwise_append]
    refine ⟨h.1.1, List.pairwise_singleton _ _, fun a ha b hb => ?_⟩
    rw [List.mem_singleton] at hb
    subst hb
    cases hg : rs.getLast? with
    | none => rw [List.getLast?_eq_none_iff] at hg; subst hg; cases ha
    | some o =>
      have h1 := hl o hg
      obtain ⟨ys, hys⟩ := List.getLast?_eq_some_iff.1 hg
      rw [hys] at ha
      rcases List.mem_append.1 ha with ha | ha
      · have h2 := (List.pairwise_append.1 (hys ▸ h.1.1)).2.2 a ha o (by simp)
        have h3 := h.1.2 o (by rw [hys]; simp)
        omega
      · rw [List.mem_singleton] at ha; subst ha; exact h1
  · intro s hs
    rcases List.mem_append.1 hs with hs | hs
    · exact h.1.2 s hs
    · rw [List.mem_singleton] at hs; subst hs; exact hr.2.1
  · intro s hs
    rcases List.mem_append.1 hs with hs | hs
    · exact h.2 s hs
    · rw [List.mem_singleton] at hs; subst hs; exact hr
theorem takeS_good {s : PSt} {N : Int} {l : List ByteArray} {r : URow} {e : Int} (hs : goodS s.rs) (hr : e = 0 → goodR r ∧ r.first = r.last) : goodS (takeS s N l r e).2.2.rs := by
  unfold takeS
  split
  · exact hs
  · rename_i he
    have he0 : e = 0 := Classical.byContradiction he
    obtain ⟨hr1, hr2⟩ := hr he0
    split
    · split
      · exact hs
      · rename_i own hown
        split
        · rename_i hc
          dsimp only
          obtain ⟨ys, hys⟩ := List.getLast?_eq_some_iff.1 hown
          rw [hys, List.dropLast_concat]
          rw [hys] at hs
          have ho : goodR own := hs.2 own (by simp)
          have hlt : own.first < r.first := by
            unfold closeS at hc
            have := (Bool.and_eq_true_iff.1 hc).2
            exact of_decide_eq_true this
          refine rising_snoc ⟨⟨(List.pairwise_append.1 hs.1.1).1, fun q hq => hs.1.2 q (by simp [hq])⟩, fun q hq => hs.2 q (by simp [hq])⟩ ⟨ho.1, by show own.first ≤ r.first; omega, by have := hr1.2.2.1; show r.first ≤ 1114111; omega, ho.2.2.2⟩ (fun o hg => ?_)
          exact (List.pairwise_append.1 hs.1.1).2.2 o (List.mem_of_getLast? hg) own (by simp)
        · exact hs
    · cases hg : s.rs.getLast? with
      | none =>
        dsimp only
        rw [if_neg (by decide)]
        have hl : ∀ o, s.rs.getLast? = some o → o.last < r.first := fun o ho => by rw [hg] at ho; cases ho
        split
        · exact rising_snoc hs hr1 hl
        · exact rising_snoc hs hr1 hl
      | some own =>
        dsimp only
        split
        · exact hs
        · rename_i hb
          have hl : ∀ o, s.rs.getLast? = some o → o.last < r.first := by
            intro o ho
            rw [hg] at ho
            injection ho with ho
            subst ho
            have h1 : ¬ r.first ≤ own.last := fun h => hb (decide_eq_true h)
            omega
          split
          · exact rising_snoc hs hr1 hl
          · exact rising_snoc hs hr1 hl
theorem foldU_good : ∀ (ls : List (Nat × List ByteArray)) (s : PSt), goodS s.rs → (∀ x ∈ ls, ∀ y ∈ x.2, y.size ≤ 1000000) → goodS (foldU ls s).2.2.rs
  | [], s, h, _ => h
  | (n, l) :: r, s, h, hsz => by
    have h1 := takeS_good (N := n) (l := l) h (fun he => rowS_good l (hsz (n, l) (by simp)) he)
    rw [foldU]
    split
    · exact foldU_good r _ h1 (fun x hx => hsz x (by simp [hx]))
    · exact h1
theorem lines_size (b : List UInt8) (hb : b.length ≤ 100000) : ∀ x ∈ linesOf 0 (pieceB 10 ⟨b.toArray⟩), ∀ y ∈ x.2, y.size ≤ 1000000 := by
  refine linesOf_size _ 0 1000000 (fun x hx => ?_)
  have h1 := pieceB_size 10 _ x hx
  have h2 : (⟨b.toArray⟩ : ByteArray).size = b.length := by show b.toArray.size = _; simp
  omega
theorem lines_len (b : List UInt8) : (linesOf 0 (pieceB 10 ⟨b.toArray⟩)).length ≤ b.length + 1 := by
  have h0 := linesOf_len (pieceB 10 ⟨b.toArray⟩) 0
  have h1 := cutC_len 10 (⟨b.toArray⟩ : ByteArray).data.toList
  simp [pieceB] at h1 h0 ⊢
  omega
theorem parseU_good (b : List UInt8) (hb : b.length ≤ 100000) {rs : List URow} (h : (parseU b).1 = some rs) : goodS rs ∧ rs.length ≤ b.length + 1 ∧ (parseU b).2 = (0, 0) := by
  have h1 := foldU_good (linesOf 0 (pieceB 10 ⟨b.toArray⟩)) s0 ⟨⟨List.Pairwise.nil, fun s h => by cases h⟩, fun s h => by cases h⟩ (lines_size b hb)
  have h2 := foldU_ok (linesOf 0 (pieceB 10 ⟨b.toArray⟩)) s0 (fun h => by cases h)
  have h3 := lines_len b
  unfold parseU at h ⊢
  dsimp only at h ⊢
  split at h
  · cases h
  · rename_i h0
    rw [if_neg h0]
    split at h
    · cases h
    · rename_i h4
      rw [if_neg h4]
      injection h with h
      subst h
      refine ⟨h1, ?_, rfl⟩
      have h5 := h2.2
      have h6 : s0.rs.length = 0 := rfl
      omega
theorem parseU_bad (b : List UInt8) (h : (parseU b).1 = none) : (parseU b).2.1 ≠ 0 := by
  unfold parseU at h ⊢
  dsimp only at h ⊢
  split at h
  · rename_i h0; rw [if_pos h0]; exact h0
  · rename_i h0
    rw [if_neg h0]
    split at h
    · rename_i h4; rw [if_pos h4]; show (14 : Int) ≠ 0; decide
    · cases h
theorem foldP_bad (vals : List ByteArray) : ∀ (ls : List (Nat × List ByteArray)) (l : List USpan), (foldP vals ls l).1 = none → (foldP vals ls l).2.1 ≠ 0
  | [], l, h => by cases h
  | (n, x) :: r, l, h => by
    rw [foldP] at h ⊢
    split at h
    · rename_i h0
      rw [if_pos h0]
      split at h
      · rename_i h1
        rw [if_pos h1]
        exact foldP_bad vals r l h
      · rename_i h1
        rw [if_neg h1]
        cases ha : addS l (lineS x).1 with
        | mk o e =>
          rw [ha] at h
          cases o with
          | none => exact addS_none ha
          | some l' => exact foldP_bad vals r l' h
    · rename_i h0
      rw [if_neg h0]
      exact h0
theorem parseP_good (vals : List ByteArray) (b : List UInt8) {l : List USpan} (h : (parseP vals b).1 = some l) : RisingS l ∧ l.length ≤ b.length + 1 ∧ (parseP vals b).2 = (0, 0) := by
  obtain ⟨p, hp⟩ : ∃ p, p = parseP vals b := ⟨_, rfl⟩
  rw [← hp] at h ⊢
  obtain ⟨o, e, a⟩ := p
  dsimp only at h ⊢
  subst h
  have h1 := foldP_rising vals _ [] l e a ⟨List.Pairwise.nil, fun s h => by cases h⟩ hp.symm
  have h3 := lines_len b
  have h4 := h1.2.1
  simp at h4
  exact ⟨h1.1, by omega, by rw [h1.2.2.1, h1.2.2.2]⟩
theorem parseP_bad (vals : List ByteArray) (b : List UInt8) (h : (parseP vals b).1 = none) : (parseP vals b).2.1 ≠ 0 := foldP_bad vals _ [] h
theorem foldC_bad : ∀ (ls : List (Nat × List ByteArray)) (l : List (Int × List Int)), (foldC ls l).1 = none → (foldC ls l).2.1 ≠ 0
  | [], l, h => by cases h
  | (n, x) :: r, l, h => by
    rw [foldC] at h ⊢
    split at h
    · rename_i h0
      rw [if_pos h0]
      split at h
      · rename_i h1; rw [if_pos h1]; show (15 : Int) ≠ 0; decide
      · rename_i h1
        rw [if_neg h1]
        exact foldC_bad r _ h
    · rename_i h0
      rw [if_neg h0]
      exact h0
theorem parseC_good (b : List UInt8) {l : List (Int × List Int)} (h : (parseC b).1 = some l) : l.length ≤ b.length + 1 ∧ (parseC b).2 = (0, 0) := by
  obtain ⟨p, hp⟩ : ∃ p, p = parseC b := ⟨_, rfl⟩
  rw [← hp] at h ⊢
  obtain ⟨o, e, a⟩ := p
  dsimp only at h ⊢
  subst h
  have h1 := foldC_len _ [] l e a hp.symm
  have h3 := lines_len b
  have h4 := h1.1
  simp at h4
  exact ⟨by omega, by rw [h1.2.1, h1.2.2]⟩
theorem parseC_bad (b : List UInt8) (h : (parseC b).1 = none) : (parseC b).2.1 ≠ 0 := foldC_bad _ [] h
end Go.Proofs.YtebgebgkieglhaaGreatDoor.FieldW
end
section
/- data: korean. -/
namespace Go.Proofs.YtebgebgkieglhaaGreatDoor.FieldW
open Go.RowKit Go.Shelf Go.Lib Go.Proofs Go.Proofs.YtebgebgkieglhaaGreatDoorW.PrintWords Go.Proofs.YtebgebgkieglhaaGreatDoorW.PrintLast Go.Proofs.YtebgebgkieglhaaGreatDoorW.PrintMore Go.Proofs.YtebgebgkieglhaaGreatDoor.PRef
set_option linter.unusedVariables false
set_option linter.unusedSimpArgs false

def hangP : List (Int × Int) := [(4352, 4370), (4449, 4469), (4520, 4546), (44032, 55203)]
def korS (a b : Int) : Bool := hangP.any (fun s => decide (a ≤ s.2) && decide (s.1 ≤ b))
theorem hang_ix0 (w : World) : (Instr.index 110 (.agg #[.int .i64 4352, .int .i64 4370, .int .i64 4449, .int .i64 4469, .int .i64 4520, .int .i64 4546, .int .i64 44032, .int .i64 55203]) (.int .i64 0)).run Tryz.prog w = .ok (.agg #[.int .i64 4352, .int .i64 4370]) w := by kernel_rfl
theorem hang_ix1 (w : World) : (Instr.index 110 (.agg #[.int .i64 4352, .int .i64 4370, .int .i64 4449, .int .i64 4469, .int .i64 4520, .int .i64 4546, .int .i64 44032, .int .i64 55203]) (.int .i64 1)).run Tryz.prog w = .ok (.agg #[.int .i64 4449, .int .i64 4469]) w := by kernel_rfl
theorem hang_ix2 (w : World) : (Instr.index 110 (.agg #[.int .i64 4352, .int .i64 4370, .int .i64 4449, .int .i64 4469, .int .i64 4520, .int .i64 4546, .int .i64 44032, .int .i64 55203]) (.int .i64 2)).run Tryz.prog w = .ok (.agg #[.int .i64 4520, .int .i64 4546]) w := by kernel_rfl
theorem hang_ix3 (w : World) : (Instr.index 110 (.agg #[.int .i64 4352, .int .i64 4370, .int .i64 4449, .int .i64 4469, .int .i64 4520, .int .i64 4546, .int .i64 44032, .int .i64 55203]) (.int .i64 3)).run Tryz.prog w = .ok (.agg #[.int .i64 44032, .int .i64 55203]) w := by kernel_rfl
set_option maxHeartbeats 4000000 in
set_option maxRecDepth 100000 in
theorem korean_calls (a b : Int) (gc : ByteArray) (ccc : Int) (bidi : ByteArray) (vd : Value) (w : World) (T : Tabs w) (hvd : ∃ A n c, vd = .slice A n c) :
    Calls Tryz.prog 36 #[.agg #[.int .i64 a, .int .i64 b, .string gc, .int .i64 ccc, .string bidi, vd]] w fun e w' => e = .returned (.bool (korS a b)) ∧ Go.RowKit.Below w.heap.size w w' := by
  obtain ⟨A, n, c, rfl⟩ := hvd
  have hsz := T.size
  have h0 := T.hang 0 4352 rfl
  have h1 := T.hang 1 4370 rfl
  have h2 := T.hang 2 4449 rfl
  have h3 := T.hang 3 4469 rfl
  have h4 := T.hang 4 4520 rfl
  have h5 := T.hang 5 4546 rfl
  have h6 := T.hang 6 44032 rfl
  have h7 := T.hang 7 55203 rfl
  obtain ⟨W0, hW0⟩ : ∃ W0, W0 = w.alloc (.cells #[.int .i64 a, .int .i64 b, .string gc, .int .i64 ccc, .string bidi, .slice A n c] 40) := ⟨_, rfl⟩
  have hB0 : Go.RowKit.Below w.heap.size w W0 := by rw [hW0]; exact below_alloc (Go.RowKit.Below.refl _ _) _
  have hbx : W0.heap[w.heap.size]? = some (.cells #[.int .i64 a, .int .i64 b, .string gc, .int .i64 ccc, .string bidi, .slice A n c] 40 (0, 0)) := by rw [hW0]; exact heap_alloc_new _ _
  have up : ∀ (i : Nat) (v : Value), w.cell? ⟨0, i, none⟩ = some v → (w.alloc (.cells #[.int .i64 a, .int .i64 b, .string gc, .int .i64 ccc, .string bidi, .slice A n c] 40)).cell? ⟨0, i, none⟩ = some v := fun i v h => cell_grows9 h
  replace h0 := up _ _ h0
  replace h1 := up _ _ h1
  replace h2 := up _ _ h2
  replace h3 := up _ _ h3
  replace h4 := up _ _ h4
  replace h5 := up _ _ h5
  replace h6 := up _ _ h6
  replace h7 := up _ _ h7
  have H := Aside0.mk (And.intro hB0 hbx)
  rw [hW0] at H
  clear up hB0 hbx hW0
  go_enter Tryz.func36, Tryz.ntmps36
  go_wp2
  go_loopw [2, 6] (fun bv iv wr => ∃ i : Int, (i = 0 ∨ i = 1 ∨ i = 2 ∨ i = 3 ∨ i = 4) ∧ bv = .bool false ∧ iv = .int .i64 i ∧ (hangP.take i.toNat).any (fun s => decide (a ≤ s.2) && decide (s.1 ≤ b)) = false ∧ Go.RowKit.Below (w.heap.size + 1) (w.alloc (.cells #[.int .i64 a, .int .i64 b, .string gc, .int .i64 ccc, .string bidi, .slice A n c] 40)) wr) (fun bv iv wr => 4 - (intOf iv).toNat)
  case atStart => exact ⟨0, .inl rfl, rfl, rfl, rfl, Go.RowKit.Below.refl _ _⟩
  case round =>
    obtain ⟨i, hi, rfl, rfl, hno, hb⟩ := hrel
    have hbr : wr.heap[w.heap.size]? = some (.cells #[.int .i64 a, .int .i64 b, .string gc, .int .i64 ccc, .string bidi, .slice A n c] 40 (0, 0)) := (hb.block _ (by omega)).trans H.out.2
    have c0 : wr.cell? ⟨w.heap.size, 0, none⟩ = some _ := (blk_cell hbr 0).trans rfl
    have c1 : wr.cell? ⟨w.heap.size, 1, none⟩ = some _ := (blk_cell hbr 1).trans rfl
    have HB := Aside0.mk (And.intro hb hno)
    have d0 := cell_up (W := wr) (w2 := wr) (Go.RowKit.Below.refl _ _) c0
    have fin : ∀ (o : Obj), Go.RowKit.Below w.heap.size w (wr.alloc o) := fun o => below_alloc (H.out.1.trans (HB.out.1.mono (by omega))) _
    have nxt : ∀ (o : Obj), Go.RowKit.Below (w.heap.size + 1) (w.alloc (.cells #[.int .i64 a, .int .i64 b, .string gc, .int .i64 ccc, .string bidi, .slice A n c] 40)) (wr.alloc o) := fun o => HB.out.1.trans ((Go.RowKit.Below.alloc (Go.RowKit.Below.refl _ wr) (Nat.le_refl _) o).mono (by have := HB.out.1.size; simp at this; omega))
    have FN := Aside0.mk fin
    have NX := Aside0.mk nxt
    have al : ∀ (o : Obj), (wr.alloc o).cell? ⟨w.heap.size, 0, none⟩ = some (.int .i64 a) := fun o => cell_grows9 c0
    have al1 : ∀ (o : Obj), (wr.alloc o).cell? ⟨w.heap.size, 1, none⟩ = some (.int .i64 b) := fun o => cell_grows9 c1
    clear hb hno hbr d0 fin nxt
    have x0 := hang_ix0
    have x1 := hang_ix1
    have x2 := hang_ix2
    have x3 := hang_ix3
    obtain rfl | rfl | rfl | rfl | rfl := hi
    · go_wp2
      all_goals first
        | (go_ret
           have e : korS a b = true := by
             unfold korS hangP
             simp
             omega
           exact ⟨by rw [e]; rfl, FN.out _⟩)
        | (refine ⟨⟨1, by omega, rfl, rfl, ?_, NX.out _⟩, by simp [intOf]⟩
           have h9 := HB.out.2
           unfold hangP at h9 ⊢
           simp at h9 ⊢
           omega)
    · go_wp2
      all_goals first
        | (go_ret
           have e : korS a b = true := by
             unfold korS hangP
             simp
             omega
           exact ⟨by rw [e]; rfl, FN.out _⟩)
        | (refine ⟨⟨2, by omega, rfl, rfl, ?_, NX.out _⟩, by simp [intOf]⟩
           have h9 := HB.out.2
           unfold hangP at h9 ⊢
           simp at h9 ⊢
           omega)
    · go_wp2
      all_goals first
        | (go_ret
           have e : korS a b = true := by
             unfold korS hangP
             simp
             omega
           exact ⟨by rw [e]; rfl, FN.out _⟩)
        | (refine ⟨⟨3, by omega, rfl, rfl, ?_, NX.out _⟩, by simp [intOf]⟩
           have h9 := HB.out.2
           unfold hangP at h9 ⊢
           simp at h9 ⊢
           omega)
    · go_wp2
      all_goals first
        | (go_ret
           have e : korS a b = true := by
             unfold korS hangP
             simp
             omega
           exact ⟨by rw [e]; rfl, FN.out _⟩)
        | (refine ⟨⟨4, by omega, rfl, rfl, ?_, NX.out _⟩, by simp [intOf]⟩
           have h9 := HB.out.2
           unfold hangP at h9 ⊢
           simp at h9 ⊢
           omega)
    · go_wp2
      go_ret
      have e : korS a b = false := by
        have h9 := HB.out.2
        unfold korS
        exact h9
      exact ⟨by rw [e]; rfl, H.out.1.trans (HB.out.1.mono (by omega))⟩
end Go.Proofs.YtebgebgkieglhaaGreatDoor.FieldW
end
