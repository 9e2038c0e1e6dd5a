/- DatL, DatD0, DatD, DatM, DatP, DatN. -/
import Derived.Test.YtebgebgkieglhaaGreatDoorDM10
section
/- data: pairs. -/
namespace Go.Proofs.YtebgebgkieglhaaGreatDoor.FieldW
open Go.RowKit Go.Shelf Go.Lib Go.Proofs Go.Proofs.YtebgebgkieglhaaGreatDoorW.PrintWords Go.Proofs.YtebgebgkieglhaaGreatDoorW.PrintLast Go.Proofs.YtebgebgkieglhaaGreatDoorW.PrintMore Go.Proofs.YtebgebgkieglhaaGreatDoor.PRef
set_option linter.unusedVariables false
set_option linter.unusedSimpArgs false
open Go Go.Maps
attribute [local go_sem] Oper.semAt_some


/-- A row of which nothing is noted. -/
def skipR (rs : List URow) (p0 : List USpan) (r : URow) : Bool := r.dec.length != 2 || r.ccc != 0 || exS p0 r.first || (rowAt rs (r.dec.getD 0 0)).ccc != 0
/-- What pairs make; none: one makes two. -/
def pairF (rs : List URow) (p0 : List USpan) : List URow → List ((Int × Int) × Int) → Option (List ((Int × Int) × Int))
  | [], l => some l
  | r :: t, l => if skipR rs p0 r then pairF rs p0 t l else if (lookP l (r.dec.getD 0 0, r.dec.getD 1 0)).isSome then none else pairF rs p0 t (l ++ [((r.dec.getD 0 0, r.dec.getD 1 0), r.first)])
theorem pairF_snoc (rs : List URow) (p0 : List USpan) : ∀ (pre : List URow) (l l' : List ((Int × Int) × Int)) (t : List URow), pairF rs p0 pre l = some l' → pairF rs p0 (pre ++ t) l = pairF rs p0 t l'
  | [], l, l', t, h => by injection h with h; subst h; rfl
  | r :: pre, l, l', t, h => by
    rw [List.cons_append, pairF]
    rw [pairF] at h
    split
    · rename_i hs; rw [if_pos hs] at h; exact pairF_snoc rs p0 pre l l' t h
    · rename_i hs
      rw [if_neg hs] at h
      split
      · rename_i hk; rw [if_pos hk] at h; cases h
      · rename_i hk; rw [if_neg hk] at h; exact pairF_snoc rs p0 pre _ l' t h
theorem pairF_none (rs : List URow) (p0 : List USpan) : ∀ (pre : List URow) (l : List ((Int × Int) × Int)) (t : List URow), pairF rs p0 pre l = none → pairF rs p0 (pre ++ t) l = none
  | [], l, t, h => by cases h
  | r :: pre, l, t, h => by
    rw [List.cons_append, pairF]
    rw [pairF] at h
    split
    · rename_i hs; rw [if_pos hs] at h; exact pairF_none rs p0 pre l t h
    · rename_i hs
      rw [if_neg hs] at h
      split
      · rfl
      · rename_i hk; rw [if_neg hk] at h; exact pairF_none rs p0 pre _ t h
theorem pairF_len (rs : List URow) (p0 : List USpan) : ∀ (pre : List URow) (l l' : List ((Int × Int) × Int)), pairF rs p0 pre l = some l' → l'.length ≤ l.length + pre.length
  | [], l, l', h => by injection h with h; subst h; simp
  | r :: pre, l, l', h => by
    rw [pairF] at h
    split at h
    · have := pairF_len rs p0 pre l l' h; rw [List.length_cons]; omega
    · split at h
      · cases h
      · have := pairF_len rs p0 pre _ l' h; rw [List.length_append] at this; rw [List.length_cons]; simp at this ⊢; omega
/-- What pairs keeps between two rows. -/
def prsI (rs : List URow) (p0 : List USpan) (D : Nat) (cs : Array Value) (w : World) (pre : List URow) (W : World) : Prop :=
  ∃ l, pairF rs p0 pre [] = some l ∧ W.heap[w.heap.size]? = some (.cells #[.pointer (some ⟨D, 0, none⟩)] 27 (0, 0)) ∧ W.heap[w.heap.size + 1]? = some (.cells #[.bool false] 4 (0, 0)) ∧ PairIs W (w.heap.size + 2) l ∧
    W.heap[D]? = some (.cells cs 72 (0, 0)) ∧ w.grownBy W (some D) ∧ w.heap.size + 4 ≤ W.heap.size
theorem grown_below {n : Nat} {A B C : World} {D : Nat} (h : A.grownBy B (some D)) (hb : Go.RowKit.Below n B C) (hn : A.heap.size ≤ n) : A.grownBy C (some D) :=
  ⟨hb.os.trans h.os, hb.tape.trans h.tape, hb.output.trans h.output, Nat.le_trans h.size hb.size, fun k hk hne => (hb.block k (by omega)).trans (h.block k hk hne)⟩
theorem prsI_stay (rs : List URow) (p0 : List USpan) (D : Nat) (cs : Array Value) (w : World) (hD : D < w.heap.size) : StayI (w.heap.size + 4) (prsI rs p0 D cs w) := by
  rintro pre A B ⟨l, h1, h2, h3, h4, h5, h6, h7⟩ hb
  have hs := hb.size
  exact ⟨l, h1, (hb.block _ (by omega)).trans h2, (hb.block _ (by omega)).trans h3, MapIs.block h4 (hb.block _ (by omega)), (hb.block _ (by omega)).trans h5, grown_below h6 hb (by omega), by omega⟩
theorem below_w0 {w W : World} {D i : Nat} {u : Value} (hW : w.grownBy W (some D)) (hD : W.heap[D]? = (w.setCell ⟨D, i, none⟩ u).heap[D]?) : Go.RowKit.Below (w.setCell ⟨D, i, none⟩ u).heap.size (w.setCell ⟨D, i, none⟩ u) W := by
  have hs : (w.setCell ⟨D, i, none⟩ u).heap.size = w.heap.size := by simp [World.setCell]
  refine ⟨hW.os, hW.tape, hW.output, by rw [hs]; exact hW.size, fun k hk => ?_⟩
  rw [hs] at hk
  by_cases e : k = D
  · rw [e]; exact hD
  · exact (hW.block k hk (fun h => e (by injection h))).trans (Go.RowKit.Below.heap_setCell w ⟨D, i, none⟩ u k e).symm
def prsX (rs : List URow) (p0 : List USpan) (D : Nat) (w : World) (c : Code) (pre : List URow) (W : World) : Prop :=
  c = .ret ∧ pairF rs p0 pre [] = none ∧ W.heap[w.heap.size + 1]? = some (.cells #[.bool false] 4 (0, 0)) ∧ w.grownBy W (some D)
theorem prsX_stay (rs : List URow) (p0 : List USpan) (D : Nat) (w : World) (c : Code) : StayI (w.heap.size + 4) (prsX rs p0 D w c) := by
  rintro pre A B ⟨h1, h2, h3, h4⟩ hb
  exact ⟨h1, h2, (hb.block _ (by omega)).trans h3, grown_below h4 hb (by omega)⟩
theorem cell_beside {A B : World} {g i m : Nat} {v : Value} (h : A.cell? ⟨g, i, none⟩ = some v) (hg : A.grownBy B (some m)) (hne : g ≠ m) : B.cell? ⟨g, i, none⟩ = some v := by
  have hlt : g < A.heap.size := World.block_lt_of_cell? A _ h
  have : B.heap[g]? = A.heap[g]? := hg.block g hlt (fun e => hne (by injection e))
  unfold World.cell? at h ⊢
  rw [this]
  exact h
theorem PairIs.add {w' : World} {b : Nat} {l : List ((Int × Int) × Int)} {p : Int × Int} {c : Int} (hl : lookP l p = none) (h : MapIs pairEnc pairOk Tryz.prog 79 w' b (l.length + 1) (updF (prF l) p (some (.int .i64 c))) (if (prF l p).isSome then l.length else l.length + 1)) : PairIs w' b (l ++ [(p, c)]) := by
  have e : (prF l p).isSome = false := by unfold prF; rw [hl]; rfl
  rw [lookP_snoc hl, e] at h
  unfold PairIs
  rw [List.length_append]
  exact h
set_option maxHeartbeats 4000000 in
set_option maxRecDepth 100000 in
theorem pairs_calls {rs : List URow} (hG : RowsOk rs) (D gu base : Nat) (gs : List Nat) (g0 : Nat) (p0 : List USpan) (gc : Value) (w : World) (hDh : w.heap[D]? = some (.cells (dCells gu gs gc (.map none)).toArray 72 (0, 0))) (hg0 : gs[0]? = some g0) (hg5 : gs.length = 5) (hDb : D < base) (hU : UTab w base gu rs) (hS0 : STab w base g0 p0) (hp0 : p0.length ≤ 1000000000) (hr0 : RisingS p0) :
    Calls Tryz.prog 39 #[.pointer (some ⟨D, 0, none⟩)] w fun e w' => e = .returned (.bool (pairF rs p0 rs []).isSome) ∧ w.grownBy w' (some D) ∧ ∀ l, pairF rs p0 rs [] = some l → w'.heap[D]? = some (.cells (dCells gu gs gc (.map (some (w.heap.size + 2)))).toArray 72 (0, 0)) ∧ PairIs w' (w.heap.size + 2) l := by
  have hdc := dCells_get gu gs gc (.map none) (by omega)
  have hDl : D < w.heap.size := blk_lt hDh
  obtain ⟨cs0, hcs0⟩ : ∃ cs0, cs0 = (dCells gu gs gc (.map none)).toArray := ⟨_, rfl⟩
  obtain ⟨cs1, hcs1⟩ : ∃ cs1, cs1 = (dCells gu gs gc (.map (some (w.heap.size + 2)))).toArray := ⟨_, rfl⟩
  have hset : (w.setCell ⟨D, 7, none⟩ (.map (some (w.heap.size + 2)))).heap[D]? = some (.cells cs1 72 (0, 0)) := by
    have h := blk_set hDh 7 (.map (some (w.heap.size + 2)))
    rw [hcs1]
    rw [h]
    congr 2
    obtain ⟨a, b, c, d, e, rfl⟩ : ∃ a b c d e, gs = [a, b, c, d, e] := by
      rcases gs with _ | ⟨a, _ | ⟨b, _ | ⟨c, _ | ⟨d, _ | ⟨e, _ | ⟨f, r⟩⟩⟩⟩⟩⟩
      all_goals first
        | (simp at hg5; done)
        | exact ⟨_, _, _, _, _, rfl⟩
    rfl
  have hc10 : cs1[0]? = some (.pointer (some ⟨gu, 0, none⟩)) := by rw [hcs1, List.getElem?_toArray]; exact (dCells_get gu gs gc (.map (some (w.heap.size + 2))) (by omega)).1
  have hc17 : cs1[7]? = some (.map (some (w.heap.size + 2))) := by rw [hcs1, List.getElem?_toArray]; exact (dCells_get gu gs gc (.map (some (w.heap.size + 2))) (by omega)).2.2
  have hc11 : cs1[1]? = some (.pointer (some ⟨g0, 0, none⟩)) := by
    rw [hcs1]
    rcases gs with _ | ⟨a, r⟩
    · cases hg0
    · injection hg0 with hg0; subst hg0; rfl
  have hc00 : cs0[0]? = some (.pointer (some ⟨gu, 0, none⟩)) := by rw [hcs0, List.getElem?_toArray]; exact hdc.1
  have hc07 : cs0[7]? = some (.map none) := by rw [hcs0, List.getElem?_toArray]; exact hdc.2.2
  rw [← hcs0] at hDh
  have y7 : w.cell? ⟨D, 7, none⟩ = some (.map none) := (blk_cell hDh 7).trans hc07
  have z7 := blk_frozen hDh 7
  obtain ⟨PP, hPP⟩ : ∃ PP : Ending → World → Prop, PP = fun e w' => e = .returned (.bool (pairF rs p0 rs []).isSome) ∧ w.grownBy w' (some D) ∧ ∀ l, pairF rs p0 rs [] = some l → w'.heap[D]? = some (.cells (dCells gu gs gc (.map (some (w.heap.size + 2)))).toArray 72 (0, 0)) ∧ PairIs w' (w.heap.size + 2) l := ⟨_, rfl⟩
  rw [← hPP]
  rw [← hcs1] at hPP
  have HPP := Aside0.mk hPP
  have HD := Aside0.mk (And.intro hset (And.intro hc10 (And.intro hc11 (And.intro hc17 hDh))))
  have HU := Aside0.mk (And.intro hU (And.intro hS0 (And.intro hp0 (And.intro hr0 hDb))))
  clear hPP hU hS0 hp0 hr0 hset hcs0 hcs1 hc10 hc11 hc17 hc00 hc07 hdc hg0 hDh
  refine (callsIn_wide (n := 4)).1 ?_
  refine callsIn_of_wp_marks Tryz.func39 rfl trivial ?_ rfl
  simp only [Tryz.ntmps39, List.size_toArray, List.length_cons, List.length_nil, Nat.reduceAdd, Nat.reduceSub, Array.replicate_succ, Array.replicate_zero, List.push_toArray, List.append_toArray, List.nil_append, List.cons_append]
  refine wpIn_wide.2 ?_
  have hmm := @run_makeMap Tryz.prog
  have hbel3 : ∀ (o1 o2 o3 : Obj), Go.RowKit.Below w.heap.size w (((w.alloc o1).alloc o2).alloc o3) := fun o1 o2 o3 => below_alloc (below_alloc (below_alloc (Go.RowKit.Below.refl _ _) _) _) _
  have HB3 := Aside0.mk hbel3
  have hc3 : ∀ (o1 o2 o3 : Obj), (((w.alloc o1).alloc o2).alloc o3).cell? ⟨D, 7, none⟩ = some (.map none) := fun o1 o2 o3 => ((hbel3 o1 o2 o3).cell (p := ⟨D, 7, none⟩) hDl).trans y7
  have hf3 : ∀ (o1 o2 o3 : Obj), (((w.alloc o1).alloc o2).alloc o3).frozen? ⟨D, 7, none⟩ = false := fun o1 o2 o3 => blk_frozen (((hbel3 o1 o2 o3).block _ hDl).trans HD.out.2.2.2.2) 7
  have hx3 : ∀ (o1 o2 o3 : Obj), ((((w.alloc o1).alloc o2).alloc o3).setCell ⟨D, 7, none⟩ (.map (some (w.heap.size + 2)))).cell? ⟨D, 0, none⟩ = some (.pointer (some ⟨gu, 0, none⟩)) := fun o1 o2 o3 => by
    have h0 := blk_set (((HB3.out o1 o2 o3).block _ hDl).trans HD.out.2.2.2.2) 7 (.map (some (w.heap.size + 2)))
    have h1 := blk_set HD.out.2.2.2.2 7 (.map (some (w.heap.size + 2)))
    rw [HD.out.1] at h1
    injection h1 with h1
    injection h1 with h1
    rw [← h1] at h0
    exact (blk_cell h0 0).trans HD.out.2.1
  clear hbel3
  go_wp2_with (go_at_call 11; refine Aside0.out ?_)
  refine Aside0.mk ?_
  simp only [Nat.add_assoc, Nat.reduceAdd]
  obtain ⟨W5, hW5⟩ : ∃ W5, W5 = ((((w.alloc (.cells #[.pointer (some ⟨D, 0, none⟩)] 27)).alloc (.cells #[.bool false] 4)).alloc (.map #[] 0)).setCell ⟨D, 7, none⟩ (.map (some (w.heap.size + 2)))) := ⟨_, rfl⟩
  rw [← hW5]
  have up : ∀ (W : World) (o : Obj) (k : Nat) (u : Obj), W.heap[k]? = some u → (W.alloc o).heap[k]? = some u := fun W o k u h => (Go.RowKit.Below.heap_alloc _ _ _ (Array.getElem?_eq_some_iff.1 h).1).trans h
  have nw : ∀ (W : World) (o : Obj) (k : Nat), k = W.heap.size → (W.alloc o).heap[k]? = some (match o with | .cells cs ty sh => .cells cs ty sh | o => o) := fun W o k h => by subst h; rw [heap_alloc_new]; cases o <;> rfl
  have far : ∀ (W : World) (k : Nat), k ≠ D → (W.setCell ⟨D, 7, none⟩ (.map (some (w.heap.size + 2)))).heap[k]? = W.heap[k]? := fun W k hk => Go.RowKit.Below.heap_setCell W ⟨D, 7, none⟩ _ k hk
  have q0 : W5.heap[w.heap.size]? = some (.cells #[.pointer (some ⟨D, 0, none⟩)] 27 (0, 0)) := by rw [hW5]; exact (far _ _ (by omega)).trans (up _ _ _ _ (up _ _ _ _ (nw _ _ _ rfl)))
  have q1 : W5.heap[w.heap.size + 1]? = some (.cells #[.bool false] 4 (0, 0)) := by rw [hW5]; exact (far _ _ (by omega)).trans (up _ _ _ _ (nw _ _ _ (by simp)))
  have qM : PairIs W5 (w.heap.size + 2) [] := by
    have h := PairIs.made ((w.alloc (.cells #[.pointer (some ⟨D, 0, none⟩)] 27)).alloc (.cells #[.bool false] 4))
    rw [World.size_alloc, World.size_alloc] at h
    rw [hW5]
    exact MapIs.block h (far _ _ (by omega))
  have hs5 : W5.heap.size = w.heap.size + 3 := by rw [hW5]; simp [World.setCell]
  obtain ⟨w0, hw0⟩ : ∃ w0, w0 = w.setCell ⟨D, 7, none⟩ (.map (some (w.heap.size + 2))) := ⟨_, rfl⟩
  have hs0 : w0.heap.size = w.heap.size := by rw [hw0]; simp [World.setCell]
  have HW0 := Aside0.mk hw0
  have h05 : Go.RowKit.Below w0.heap.size w0 W5 := by
    refine ⟨?_, ?_, ?_, by omega, fun k hk => ?_⟩
    · rw [hW5, hw0]; rfl
    · rw [hW5, hw0]; rfl
    · rw [hW5, hw0]; rfl
    · rw [hs0] at hk
      by_cases e : k = D
      · have h0 := blk_set (((HB3.out (.cells #[.pointer (some ⟨D, 0, none⟩)] 27) (.cells #[.bool false] 4) (.map #[] 0)).block _ hDl).trans HD.out.2.2.2.2) 7 (.map (some (w.heap.size + 2)))
        have h1 := blk_set HD.out.2.2.2.2 7 (.map (some (w.heap.size + 2)))
        rw [e, hW5, hw0, h0, h1]
      · rw [hW5, hw0, far _ _ e]
        exact ((HB3.out _ _ _).block k hk).trans (Go.RowKit.Below.heap_setCell w ⟨D, 7, none⟩ _ k e).symm
  have qD : W5.heap[D]? = some (.cells cs1 72 (0, 0)) := (h05.block D (by omega)).trans (by rw [hw0]; exact HD.out.1)
  have hg5 : w.grownBy W5 (some D) := by
    refine ⟨by rw [hW5]; rfl, by rw [hW5]; rfl, by rw [hW5]; rfl, by omega, fun k hk hne => ?_⟩
    rw [hW5, far _ _ (fun e => hne (by rw [e]))]
    exact (HB3.out _ _ _).block k hk
  have hU0 : UTab w0 base gu rs := by rw [hw0]; exact HU.out.1.far (by show D < base; exact HU.out.2.2.2.2) _
  have hS0 : STab w0 base g0 p0 := by rw [hw0]; exact HU.out.2.1.far (by show D < base; exact HU.out.2.2.2.2) _
  refine (rows_calls gu W5).mono ?_
  rintro e Wr ⟨rfl, hWr⟩
  rw [hs5]
  have h57 : Go.RowKit.Below W5.heap.size W5 Wr := by rw [hWr]; exact below_alloc (Go.RowKit.Below.refl _ _) _
  have hs7 : Wr.heap.size = w.heap.size + 4 := by rw [hWr]; simp [hs5]
  have hbx : Wr.heap[w.heap.size + 3]? = some (.cells #[.pointer (some ⟨gu, 0, none⟩)] 35 (0, 0)) := by rw [hWr, ← hs5]; exact heap_alloc_new _ _
  have hinv : prsI rs p0 D cs1 w [] Wr := ⟨[], rfl, (h57.block _ (by omega)).trans q0, (h57.block _ (by omega)).trans q1, MapIs.below qM h57, (h57.block _ (by omega)).trans qD, grown_below hg5 h57 (by omega), by omega⟩
  have h0r : Go.RowKit.Below w0.heap.size w0 Wr := h05.trans (h57.mono (by omega))
  have HI := Aside0.mk (And.intro hinv (And.intro hbx (And.intro h0r (And.intro hs7 (And.intro hU0 (And.intro hS0 hs0))))))
  clear hW5 up nw far q0 q1 qM hs5 hw0 hs0 h05 qD hg5 hU0 hS0 hWr h57 hs7 hbx hinv h0r hmm hc3 hf3 hx3 y7 z7
  go_wp2
  refine (wpIn_wide (n := 4)).1 ?_
  refine rows_range (w0 := w0) (base := base) (gu := gu) (n0 := w.heap.size) (Bx := w.heap.size + 3) (rs := rs) rfl HI.out.2.1 HI.out.2.2.2.2.1 HI.out.2.2.1 (by have := HI.out.2.2.2.1; omega) (Nat.le_trans hG.len (by decide)) (fun r hr => Nat.le_trans (hG.good r hr).2.2.2.1 (by decide)) rfl
    (fun x Lv v => { tmps := #[.pointer (some ⟨D, 0, none⟩), .pointer (some ⟨w.heap.size, 0, none⟩), .pointer (some ⟨w.heap.size + 1, 0, none⟩), .pointer (some ⟨Lv, 0, none⟩), undef, undef, undef, .pointer (some ⟨D, 0, none⟩), .map (some (w.heap.size + 2)), .pointer (some ⟨D, 0, none⟩), .pointer (some ⟨D, 7, none⟩), .pointer (some ⟨D, 0, none⟩), .pointer (some ⟨D, 0, none⟩), .pointer (some ⟨D, 0, none⟩), .pointer (some ⟨gu, 0, none⟩), .func (.func 40) #[] #[.pointer (some ⟨w.heap.size + 3, 0, none⟩)], .agg (rowC x v), undef, undef, undef, undef, undef, undef, undef, undef, undef, undef, undef, undef, undef, undef, undef, undef, undef, undef, undef, undef, undef, undef, undef, undef, undef, undef, undef, undef, undef, undef, undef, undef, undef, undef, undef, undef, undef, undef, undef, undef, undef, undef, undef, undef, undef, undef, undef, undef, undef, undef, undef, undef, undef], defers := [] })
    (prsI rs p0 D cs1 w) (prsX rs p0 D w) (HI.out.2.2.2.1 ▸ prsI_stay rs p0 D cs1 w hDl) (fun c => HI.out.2.2.2.1 ▸ prsX_stay rs p0 D w c) HI.out.1 ?assign ?body ?done ?stop
  case assign =>
    intro l x A c W Kc h
    unfold rowC at h ⊢
    gi_wp2
    exact h
  case body =>
    rintro lp Z pre x r Lv v W hI hx hL hLv hR hW hZ hK
    obtain ⟨A5, c5, rfl⟩ := Kd.R_slice hR
    obtain ⟨l, i1, i2, i3, i4, i5, i6, i7⟩ := hI
    have hxm : x ∈ rs := by rw [hx]; simp
    have y0 : W.cell? ⟨w.heap.size, 0, none⟩ = some _ := (blk_cell i2 0).trans rfl
    have l0 : W.cell? ⟨Lv, 0, none⟩ = some (.int .i64 x.first) := (blk_cell hL 0).trans rfl
    have l3 : W.cell? ⟨Lv, 3, none⟩ = some (.int .i64 x.ccc) := (blk_cell hL 3).trans rfl
    have l5 : W.cell? ⟨Lv, 5, none⟩ = some (.slice A5 x.dec.length c5) := (blk_cell hL 5).trans rfl
    unfold rowC
    have hsn := fun t => pairF_snoc rs p0 pre [] l t i1
    have hpl := pairF_len rs p0 pre [] l i1
    have hgx := hG.good x hxm
    have hWl := blk_lt i2
    have h0W : Go.RowKit.Below w0.heap.size w0 W := by rw [HW0.out]; exact below_w0 i6 (i5.trans HD.out.1.symm)
    have hgl : ∀ a b, x.dec = [a, b] → ∃ g, A5 = some ⟨g, 0, none⟩ ∧ W.cell? ⟨g, 0, none⟩ = some (.int .i64 a) ∧ W.cell? ⟨g, 1, none⟩ = some (.int .i64 b) := by
      intro a b hab
      obtain ⟨A9, c9, e9, _, hC9⟩ := Kd.R_reads hR
      injection e9 with e1 e2 e3
      subst e1
      obtain ⟨-, inner, ⟨hlen, hown⟩, -⟩ := hR
      rcases hown with ⟨e, hn⟩ | ⟨g, cap, cur, e, -⟩
      · rw [hab] at hn; cases hn
      · injection e with e1 e2 e3
        subst e1
        obtain ⟨ad, e4, h0⟩ := Kd.at_int hC9 0 (by omega) (by rw [hab]; simp)
        injection e4 with e4
        subst e4
        obtain ⟨ad, e4, h1⟩ := Kd.at_int hC9 1 (by omega) (by rw [hab]; simp)
        injection e4 with e4
        subst e4
        rw [hab] at h0 h1
        exact ⟨g, rfl, h0, h1⟩
    have hU5 := HI.out.2.2.2.2.1.below h0W
    have hS5 := HI.out.2.2.2.2.2.1.below h0W
    have yD0 : W.cell? ⟨D, 0, none⟩ = some (.pointer (some ⟨gu, 0, none⟩)) := (blk_cell i5 0).trans HD.out.2.1
    have yD1 : W.cell? ⟨D, 1, none⟩ = some (.pointer (some ⟨g0, 0, none⟩)) := (blk_cell i5 1).trans HD.out.2.2.1
    have yD7 : W.cell? ⟨D, 7, none⟩ = some (.map (some (w.heap.size + 2))) := (blk_cell i5 7).trans HD.out.2.2.2.1
    have k0 := cell_regrown y0
    have k1 := cell_regrown l0
    have k3 := cell_regrown l3
    have k5 := cell_regrown l5
    have kD := cell_regrown yD0
    have skipE : ∀ (d : Nat) (os : Array Obj), skipR rs p0 x = true → KeepZ (fun b => Z b ∨ ((base ≤ b ∧ b < w0.heap.size) ∨ b = w.heap.size + 3)) W (Sort.grow (redrawn W d) os) ∧ Go.RowKit.Below w.heap.size W (Sort.grow (redrawn W d) os) ∧ rI Wr.heap.size (prsI rs p0 D cs1 w) Z (pre ++ [x]) (Sort.grow (redrawn W d) os) := by
      intro d os hs
      have hb := below_regrown W d os
      have hbw : Go.RowKit.Below w.heap.size W (Sort.grow (redrawn W d) os) := hb.mono i6.size
      refine rI_next hZ hK hW (fun b hb' _ => hb.block b hb') hbw ⟨l, ?_, (hb.block _ (blk_lt i2)).trans i2, (hb.block _ (blk_lt i3)).trans i3, MapIs.below i4 hb, (hb.block _ (blk_lt i5)).trans i5, grown_below i6 hb i6.size, by have := hb.size; omega⟩
      rw [hsn [x], pairF, if_pos hs, pairF]
    have HJ := Aside0.mk (And.intro hx (And.intro hxm (And.intro hgx (And.intro hZ (And.intro hK (And.intro hW hL))))))
    have HP := Aside0.mk (And.intro i1 (And.intro i2 (And.intro i3 (And.intro i4 (And.intro i5 (And.intro i6 (And.intro i7 (And.intro hsn (And.intro hpl (And.intro hU5 hS5))))))))))
    have HSE := Aside0.mk skipE
    have HGL := Aside0.mk hgl
    clear hx hxm hgx hZ hK hW hL i1 i2 i3 i4 i5 i6 i7 hsn hpl hU5 hS5 skipE hgl hR h0W
    by_cases hA : x.dec.length = 2
    · obtain ⟨a, b, hab⟩ : ∃ a b, x.dec = [a, b] := by
        rcases hq : x.dec with _ | ⟨a, _ | ⟨b, _ | ⟨c, r⟩⟩⟩
        all_goals first
          | (rw [hq] at hA; simp at hA; done)
          | exact ⟨_, _, rfl⟩
      obtain ⟨g, rfl, ya, yb⟩ := HGL.out a b hab
      have HAB := Aside0.mk hab
      rw [hA] at l5 k5 ⊢
      have ka := cell_regrown ya
      by_cases hB : x.ccc = 0
      · have HBB := Aside0.mk hB
        rw [hB] at l3 k3 ⊢
        clear hB hab
        have c14a : ∀ d os, Calls Tryz.prog 14 #[.pointer (some ⟨D, 0, none⟩), .int .i64 x.first] (Sort.grow (redrawn W d) os) fun e w'' => e = .returned (.bool (exS p0 x.first)) ∧ ∃ p : Regrown, w'' = Sort.grow (redrawn W p.d) p.os := fun d os =>
          Calls.regrown_of (excl_calls D g0 base p0 x.first _ (cell_regrown yD1 d os) (HP.out.2.2.2.2.2.2.2.2.2.2.below (below_regrown W d os)) HU.out.2.2.1 HU.out.2.2.2.1)
        cases hE : exS p0 x.first with
        | true =>
          have c14 := c14a
          rw [hE] at c14
          have HSK := Aside0.mk (show skipR rs p0 x = true by unfold skipR; rw [hE]; simp)
          clear hE c14a
          gi_wp2
          refine wpIn_round_quiet_below (by kernel_rfl) (by kernel_rfl) (by rintro ⟨a_, w_, h_⟩; exact h_) (by kernel_rfl) ?_
          repeat (go_big_quiet_step (exact c14 _ _))
          refine wpQuiet_nil ?_
          intro _ hw'
          obtain ⟨⟨dq, osq⟩, hw''⟩ := hw'
          subst hw''
          gi_wp2
          exact HSE.out dq osq HSK.out
        | false =>
          have c14 := c14a
          rw [hE] at c14
          have HE := Aside0.mk hE
          clear hE c14a
          have c15a : ∀ d os, Calls Tryz.prog 15 #[.pointer (some ⟨gu, 0, none⟩), .int .i64 a] (Sort.grow (redrawn W d) os) fun e w'' => e = .returned (.int .i64 (rowAt rs a).ccc) ∧ ∃ p : Regrown, w'' = Sort.grow (redrawn W p.d) p.os := fun d os =>
            Calls.regrown_of (cccU_calls base gu rs a _ (HP.out.2.2.2.2.2.2.2.2.2.1.below (below_regrown W d os)) (Nat.le_trans hG.len (by decide)) hG.rise)
          obtain ⟨q, hq⟩ : ∃ q, q = (rowAt rs a).ccc := ⟨_, rfl⟩
          rw [← hq] at c15a
          have HQ := Aside0.mk hq
          clear hq
          by_cases hF : q = 0
          · have c15 := c15a
            rw [hF] at c15
            have HSK := Aside0.mk (show skipR rs p0 x = false by unfold skipR; rw [HE.out, HBB.out, HAB.out]; show (_ || (rowAt rs a).ccc != 0) = false; rw [← HQ.out, hF]; rfl)
            clear c15a hF
            gi_wp2
            refine wpIn_round_quiet_below (by kernel_rfl) (by kernel_rfl) (by rintro ⟨a_, w_, h_⟩; exact h_) (by kernel_rfl) ?_
            repeat (go_big_quiet_step (first | exact c14 _ _ | exact c15 _ _))
            refine wpQuiet_nil ?_
            intro _ hw'
            obtain ⟨⟨dq, osq⟩, hw''⟩ := hw'
            subst hw''
            obtain ⟨W1, hW1⟩ : ∃ W1, W1 = Sort.grow (redrawn W (⟨dq, osq⟩ : Regrown).d) (⟨dq, osq⟩ : Regrown).os := ⟨_, rfl⟩
            have hb1 : Go.RowKit.Below W.heap.size W W1 := by rw [hW1]; exact below_regrown W dq osq
            rw [← hW1]
            have l0a := cell_up hb1 l0
            have l5a := cell_up hb1 l5
            have yaa := cell_up hb1 ya
            have yba := cell_up hb1 yb
            have y0a := cell_up hb1 y0
            have yDa := cell_up hb1 yD7
            have HB1 := Aside0.mk hb1
            clear k0 k1 k3 k5 kD ka c14 c15 l0 l3 l5 ya yb y0 yD0 yD1 yD7 hW1 hb1
            have al5 : ∀ o, (W1.drew.alloc o).cell? ⟨Lv, 5, none⟩ = some (.slice (some ⟨g, 0, none⟩) 2 c5) := fun o => cell_grows9 l5a
            have ala : ∀ o, (W1.drew.alloc o).cell? ⟨g, 0, none⟩ = some (.int .i64 a) := fun o => cell_grows9 yaa
            have alb : ∀ o, (W1.drew.alloc o).cell? ⟨g, 1, none⟩ = some (.int .i64 b) := fun o => cell_grows9 yba
            gi_wp2
            refine wpIn_region_held (S := fun w' => w'.cell? ⟨Lv, 5, none⟩ = some (.slice (some ⟨g, 0, none⟩) 2 c5) ∧ w'.cell? ⟨g, 0, none⟩ = some (.int .i64 a) ∧ w'.cell? ⟨g, 1, none⟩ = some (.int .i64 b)) (by kernel_rfl) (by kernel_rfl) (by rintro ⟨a_, w_, h_⟩; exact h_) ?s0r5 (fun hHeld => ?b0r5)
            case s0r5 => exact ⟨l5a, yaa, yba⟩
            refine wpAnyH_take (i := 0) (oi := { dst := some 44, op := Go.Op.fieldAddr 40 (Go.Operand.tmp 3) 5, type := 0, pos := "data.go:133", after := #[], guard := none }) (v := ?vr5_1) rfl (by kernel_rfl) (by kernel_rfl) (by kernel_rfl) (fun _ _ _ h => h) (Or.inl ⟨by rfl, ?hyr5_1⟩) (by assumption) ?rer5_1
            case hyr5_1 => (intro w hSw; (try dsimp only at hSw); go_simp; try with_reducible rfl)
            try simp only [Act.put, List.setIfInBounds_toArray, List.set_cons_zero, List.set_cons_succ]
            refine wpAnyH_take (i := 1) (oi := { dst := some 45, op := Go.Op.load 38 (Go.Operand.tmp 44), type := 38, pos := "data.go:133", after := #[{ on := 0, ground := Go.Ground.data }], guard := none }) (v := ?vr5_2) rfl (by kernel_rfl) (by kernel_rfl) (by kernel_rfl) (fun _ _ _ h => h) (Or.inl ⟨by rfl, ?hyr5_2⟩) (by assumption) ?rer5_2
            case hyr5_2 => (intro w hSw; (try dsimp only at hSw); go_simp; try with_reducible rfl)
            try simp only [Act.put, List.setIfInBounds_toArray, List.set_cons_zero, List.set_cons_succ]
            refine wpAnyH_take (i := 2) (oi := { dst := some 46, op := Go.Op.indexAddr 38 (Go.Operand.tmp 45) (Go.Operand.const (Go.Value.int Go.IntKind.i64 0)), type := 0, pos := "data.go:133", after := #[{ on := 1, ground := Go.Ground.data }], guard := none }) (v := ?vr5_3) rfl (by kernel_rfl) (by kernel_rfl) (by kernel_rfl) (fun _ _ _ h => h) (Or.inl ⟨by rfl, ?hyr5_3⟩) (by assumption) ?rer5_3
            case hyr5_3 => (intro w hSw; (try dsimp only at hSw); go_simp; try with_reducible rfl)
            try simp only [Act.put, List.setIfInBounds_toArray, List.set_cons_zero, List.set_cons_succ]
            refine wpAnyH_take (i := 3) (oi := { dst := some 47, op := Go.Op.load 3 (Go.Operand.tmp 46), type := 3, pos := "data.go:133", after := #[{ on := 2, ground := Go.Ground.data }], guard := none }) (v := ?vr5_4) rfl (by kernel_rfl) (by kernel_rfl) (by kernel_rfl) (fun _ _ _ h => h) (Or.inl ⟨by rfl, ?hyr5_4⟩) (by assumption) ?rer5_4
            case hyr5_4 => (intro w hSw; (try dsimp only at hSw); go_simp; try with_reducible rfl)
            try simp only [Act.put, List.setIfInBounds_toArray, List.set_cons_zero, List.set_cons_succ]
            refine wpAnyH_take (i := 4) (oi := { dst := some 48, op := Go.Op.fieldAddr 40 (Go.Operand.tmp 3) 5, type := 0, pos := "data.go:133", after := #[], guard := none }) (v := ?vr5_5) rfl (by kernel_rfl) (by kernel_rfl) (by kernel_rfl) (fun _ _ _ h => h) (Or.inl ⟨by rfl, ?hyr5_5⟩) (by assumption) ?rer5_5
            case hyr5_5 => (intro w hSw; (try dsimp only at hSw); go_simp; try with_reducible rfl)
            try simp only [Act.put, List.setIfInBounds_toArray, List.set_cons_zero, List.set_cons_succ]
            refine wpAnyH_take (i := 5) (oi := { dst := some 49, op := Go.Op.load 38 (Go.Operand.tmp 48), type := 38, pos := "data.go:133", after := #[{ on := 4, ground := Go.Ground.data }], guard := none }) (v := ?vr5_6) rfl (by kernel_rfl) (by kernel_rfl) (by kernel_rfl) (fun _ _ _ h => h) (Or.inl ⟨by rfl, ?hyr5_6⟩) (by assumption) ?rer5_6
            case hyr5_6 => (intro w hSw; (try dsimp only at hSw); go_simp; try with_reducible rfl)
            try simp only [Act.put, List.setIfInBounds_toArray, List.set_cons_zero, List.set_cons_succ]
            refine wpAnyH_take (i := 6) (oi := { dst := some 50, op := Go.Op.indexAddr 38 (Go.Operand.tmp 49) (Go.Operand.const (Go.Value.int Go.IntKind.i64 1)), type := 0, pos := "data.go:133", after := #[{ on := 5, ground := Go.Ground.data }], guard := none }) (v := ?vr5_7) rfl (by kernel_rfl) (by kernel_rfl) (by kernel_rfl) (fun _ _ _ h => h) (Or.inl ⟨by rfl, ?hyr5_7⟩) (by assumption) ?rer5_7
            case hyr5_7 => (intro w hSw; (try dsimp only at hSw); go_simp; try with_reducible rfl)
            try simp only [Act.put, List.setIfInBounds_toArray, List.set_cons_zero, List.set_cons_succ]
            refine wpAnyH_take (i := 7) (oi := { dst := some 51, op := Go.Op.load 3 (Go.Operand.tmp 50), type := 3, pos := "data.go:133", after := #[{ on := 6, ground := Go.Ground.data }], guard := none }) (v := ?vr5_8) rfl (by kernel_rfl) (by kernel_rfl) (by kernel_rfl) (fun _ _ _ h => h) (Or.inl ⟨by rfl, ?hyr5_8⟩) (by assumption) ?rer5_8
            case hyr5_8 => (intro w hSw; (try dsimp only at hSw); go_simp; try with_reducible rfl)
            try simp only [Act.put, List.setIfInBounds_toArray, List.set_cons_zero, List.set_cons_succ]
            refine wpAnyH_take (i := 8) (oi := { dst := some 52, op := Go.Op.build 79 #[(0, Go.Operand.tmp 47), (1, Go.Operand.tmp 51)], type := 79, pos := "data.go:133", after := #[{ on := 3, ground := Go.Ground.data }, { on := 7, ground := Go.Ground.data }], guard := none }) (v := ?vr5_9) rfl (by kernel_rfl) (by kernel_rfl) (by kernel_rfl) (fun _ _ _ h => h) (Or.inl ⟨by rfl, ?hyr5_9⟩) (by assumption) ?rer5_9
            case hyr5_9 => (intro w hSw; (try dsimp only at hSw); go_simp; try with_reducible rfl)
            try simp only [Act.put, List.setIfInBounds_toArray, List.set_cons_zero, List.set_cons_succ]
            refine wpAnyH_ready (rs := [9]) (by kernel_rfl) (by simp) ?rdr5_10
            refine AllReadyH.cons (o := { dst := some 4, op := Go.Op.alloc 79, type := 0, pos := "data.go:133", after := #[], guard := none }) rfl (fun K hK => ?str5_10_0) AllReadyH.nil
            go_simp
            refine hK.out _ _ ?hsr5_10_0 (fun hHeld => ?rer5_10_0)
            case hsr5_10_0 => exact ⟨al5 _, ala _, alb _⟩
            clear hK K
            try simp only [Act.put, List.setIfInBounds_toArray, List.set_cons_zero, List.set_cons_succ]
            refine wpAnyH_ready (rs := [10]) (by kernel_rfl) (by simp) ?rdr5_11
            refine AllReadyH.cons (o := { dst := none, op := Go.Op.store 79 (Go.Operand.tmp 4) (Go.Operand.tmp 52), type := 0, pos := "data.go:133", after := #[{ on := 9, ground := Go.Ground.data }, { on := 8, ground := Go.Ground.data }, { on := 0, ground := Go.Ground.phase }, { on := 1, ground := Go.Ground.phase }, { on := 2, ground := Go.Ground.phase }, { on := 3, ground := Go.Ground.phase }, { on := 4, ground := Go.Ground.phase }, { on := 5, ground := Go.Ground.phase }, { on := 6, ground := Go.Ground.phase }, { on := 7, ground := Go.Ground.phase }, { on := 8, ground := Go.Ground.phase }, { on := 9, ground := Go.Ground.phase }], guard := none }) rfl (fun K hK => ?str5_11_0) AllReadyH.nil
            go_simp
            refine hK.out _ _ ?hsr5_11_0 (fun hHeld => ?rer5_11_0)
            case hsr5_11_0 => exact ⟨al5 _, ala _, alb _⟩
            clear hK K
            try simp only [Act.put, List.setIfInBounds_toArray, List.set_cons_zero, List.set_cons_succ]
            refine wpAnyH_done (by kernel_rfl) ?dnr5_12 _
            obtain ⟨W2, hW2⟩ : ∃ W2, W2 = (W1.alloc (.cells #[.int .i64 a, .int .i64 b] 79)).drew := ⟨_, rfl⟩
            rw [← hW2]
            have hb12 : Go.RowKit.Below W1.heap.size W1 W2 := by rw [hW2]; exact below_drew1 (below_alloc (Go.RowKit.Below.refl _ _) _)
            have hpb : W2.heap[W1.heap.size]? = some (.cells #[.int .i64 a, .int .i64 b] 79 (0, 0)) := by rw [hW2]; exact heap_alloc_new _ _
            have hb2 : Go.RowKit.Below W.heap.size W W2 := HB1.out.trans (hb12.mono HB1.out.size)
            have yp0 : W2.cell? ⟨W1.heap.size, 0, none⟩ = some (.int .i64 a) := (blk_cell hpb 0).trans rfl
            have yp1 : W2.cell? ⟨W1.heap.size, 1, none⟩ = some (.int .i64 b) := (blk_cell hpb 1).trans rfl
            have y02 := cell_up hb12 y0a
            have yD2 := cell_up hb12 yDa
            have l02 := cell_up hb12 l0a
            have kp0 := cell_regrown yp0
            have kp1 := cell_regrown yp1
            have k0 := cell_regrown y02
            have kD := cell_regrown yD2
            have hpo : pairOk (a, b) := by
              have := HJ.out.2.2.1.2.2.2.2
              rw [HAB.out] at this
              have h1 := this a (by simp)
              have h2 := this b (by simp)
              exact ⟨intOk_of (by omega) (by omega), intOk_of (by omega) (by omega)⟩
            obtain ⟨kl, hkl⟩ := pairKey hpo
            have HKL := Aside0.mk (And.intro hpo hkl)
            have hPM : PairIs W2 (w.heap.size + 2) l := MapIs.below HP.out.2.2.2.1 hb2
            have HPM := Aside0.mk (And.intro hPM hb2)
            have hpl := HP.out.2.2.2.2.2.2.2.2.1
            have hlpre : pre.length ≤ 100001 := by
              have := congrArg List.length HJ.out.1
              have h2 := hG.len
              simp at this
              omega
            have hll : l.length < maxLen := by unfold maxLen; simp at hpl; omega
            have hlook : ∀ d os, (Instr.lookup 70 (.map (some (w.heap.size + 2))) (.agg #[.int .i64 a, .int .i64 b]) true).run Tryz.prog (Sort.grow (redrawn W2 d) os) = .ok (.tuple #[(prF l (a, b)).getD (.int .i64 0), .bool (prF l (a, b)).isSome]) (Sort.grow (redrawn W2 d) os) := fun d os =>
              MapIs.look_ok (MapIs.below HPM.out.1 (below_regrown W2 d os)) pair_keyed Tryz.underlying70 (zero3Z _) HKL.out.1 HKL.out.2
            clear hW2 hb12 hpb hkl hpo hPM hb2 al5 ala alb hpl
            cases hlk : lookP l (a, b) with
            | some c =>
              have e1 : (prF l (a, b)).getD (.int .i64 0) = .int .i64 c := by unfold prF; rw [hlk]; rfl
              have e2 : (prF l (a, b)).isSome = true := by unfold prF; rw [hlk]; rfl
              have hlook1 := hlook
              rw [e1, e2] at hlook1
              have HLK := Aside0.mk hlk
              clear hlook e1 e2 hlk
              gi_wp2
              refine wpIn_round_quiet_below (by kernel_rfl) (by kernel_rfl) (by rintro ⟨a_, w_, h_⟩; exact h_) (by kernel_rfl) ?_
              repeat (go_big_quiet_step (fail))
              refine wpQuiet_nil ?_
              intro _ hw'
              obtain ⟨⟨dq, osq⟩, hw''⟩ := hw'
              subst hw''
              obtain ⟨W3, hW3⟩ : ∃ W3, W3 = Sort.grow (redrawn W2 (⟨dq, osq⟩ : Regrown).d) (⟨dq, osq⟩ : Regrown).os := ⟨_, rfl⟩
              have hb3 : Go.RowKit.Below W.heap.size W W3 := by rw [hW3]; exact HPM.out.2.trans ((below_regrown W2 dq osq).mono HPM.out.2.size)
              rw [← hW3]
              have hr3 := (hb3.block _ (blk_lt HP.out.2.2.1)).trans HP.out.2.2.1
              have y3 : W3.cell? ⟨w.heap.size + 1, 0, none⟩ = some _ := (blk_cell hr3 0).trans rfl
              have z3 := blk_frozen hr3 0
              have HB3b := Aside0.mk (And.intro hb3 hr3)
              clear hb3 hW3 hr3 k0 kD kp0 kp1 hlook1
              gi_wp2
              obtain ⟨i1, i2, i3, i4, i5, i6, i7, hsn, hpl2, hU5, hS5⟩ := HP.out
              obtain ⟨hb3, hr3⟩ := HB3b.out
              have hs7 := HI.out.2.2.2.1
              refine rI_leave HJ.out.2.2.2.1 HJ.out.2.2.2.2.1 (fun b_ hb hk => ?_) ⟨rfl, ?_, ?_, ?_⟩
              · have hne : b_ ≠ w.heap.size + 1 := by
                  have := HI.out.2.2.2.2.2.2
                  rcases hk with hk | hk | hk <;> omega
                exact (Go.RowKit.Below.heap_setCell W3 ⟨w.heap.size + 1, 0, none⟩ _ b_ hne).trans (hb3.block b_ hb)
              · rw [hsn [x], pairF, if_neg (by rw [HSK.out]; decide), if_pos (by rw [HAB.out]; show (lookP l (a, b)).isSome = true; rw [HLK.out]; rfl)]
              · exact blk_set hr3 0 _
              · exact grown_below (grown_below i6 hb3 i6.size) ((Go.RowKit.Below.refl w.heap.size W3).setCell (p := ⟨w.heap.size + 1, 0, none⟩) (by show w.heap.size ≤ w.heap.size + 1; omega) _) (Nat.le_refl _)
            | none =>
              have e1 : (prF l (a, b)).getD (.int .i64 0) = .int .i64 0 := by unfold prF; rw [hlk]; rfl
              have e2 : (prF l (a, b)).isSome = false := by unfold prF; rw [hlk]; rfl
              have hlook1 := hlook
              rw [e1, e2] at hlook1
              have HLK := Aside0.mk hlk
              clear hlook e1 e2 hlk
              gi_wp2
              refine wpIn_round_quiet_below (by kernel_rfl) (by kernel_rfl) (by rintro ⟨a_, w_, h_⟩; exact h_) (by kernel_rfl) ?_
              repeat (go_big_quiet_step (fail))
              refine wpQuiet_nil ?_
              intro _ hw'
              obtain ⟨⟨dq, osq⟩, hw''⟩ := hw'
              subst hw''
              obtain ⟨W3, hW3⟩ : ∃ W3, W3 = Sort.grow (redrawn W2 (⟨dq, osq⟩ : Regrown).d) (⟨dq, osq⟩ : Regrown).os := ⟨_, rfl⟩
              have hb23 : Go.RowKit.Below W2.heap.size W2 W3 := by rw [hW3]; exact below_regrown W2 dq osq
              rw [← hW3]
              have y03 := cell_up hb23 y02
              have yD3 := cell_up hb23 yD2
              have l03 := cell_up hb23 l02
              have yp03 := cell_up hb23 yp0
              have yp13 := cell_up hb23 yp1
              have hWl1 := HB1.out.size
              have hs7 := HI.out.2.2.2.1
              have hWw := HP.out.2.2.2.2.2.2.1
              obtain ⟨w4, hrun, hM4, hg4⟩ := MapIs.update (MapIs.block (w' := W3.drew) (MapIs.below HPM.out.1 hb23) rfl) pair_keyed pairInj Tryz.underlying70 hll HKL.out.1 HKL.out.2 (.int .i64 x.first)
              have hrun1 : (Instr.mapUpdate 70 (.map (some (w.heap.size + 2))) (.agg #[.int .i64 a, .int .i64 b]) (.int .i64 x.first)).run Tryz.prog W3.drew = .ok () w4 := hrun
              have y04 := cell_beside (A := W3.drew) y03 hg4 (by omega)
              have yD4 := cell_beside (A := W3.drew) yD3 hg4 (by omega)
              have l04 := cell_beside (A := W3.drew) l03 hg4 (by omega)
              have yp04 := cell_beside (A := W3.drew) yp03 hg4 (by omega)
              have yp14 := cell_beside (A := W3.drew) yp13 hg4 (by omega)
              have H4 := Aside0.mk (And.intro (PairIs.add HLK.out hM4) (And.intro hg4 (And.intro hb23 (And.intro y04 (And.intro yD4 (And.intro yp04 (And.intro yp14 l04)))))))
              clear hM4 hg4 hb23 hW3 hrun y04 yD4 yp04 yp14 l04 k0 kD kp0 kp1 hlook1 y02 yD2 l02 yp0 yp1 y0a yDa l0a
              gi_wp2
              refine wpIn_region_held (S := fun w' => w'.cell? ⟨w.heap.size, 0, none⟩ = some (.pointer (some ⟨D, 0, none⟩)) ∧ w'.cell? ⟨D, 7, none⟩ = some (.map (some (w.heap.size + 2))) ∧ w'.cell? ⟨W1.heap.size, 0, none⟩ = some (.int .i64 a) ∧ w'.cell? ⟨W1.heap.size, 1, none⟩ = some (.int .i64 b) ∧ w'.cell? ⟨Lv, 0, none⟩ = some (.int .i64 x.first)) (by kernel_rfl) (by kernel_rfl) (by rintro ⟨a_, w_, h_⟩; exact h_) ?s0r9 (fun hHeld => ?b0r9)
              case s0r9 => exact ⟨y03, yD3, yp03, yp13, l03⟩
              refine wpAnyH_take (i := 0) (oi := { dst := some 63, op := Go.Op.load 27 (Go.Operand.tmp 1), type := 27, pos := "data.go:137", after := #[], guard := none }) (v := ?vr9_13) rfl (by kernel_rfl) (by kernel_rfl) (by kernel_rfl) (fun _ _ _ h => h) (Or.inl ⟨by rfl, ?hyr9_13⟩) (by assumption) ?rer9_13
              case hyr9_13 => (intro w hSw; (try dsimp only at hSw); go_simp; try with_reducible rfl)
              try simp only [Act.put, List.setIfInBounds_toArray, List.set_cons_zero, List.set_cons_succ]
              refine wpAnyH_take (i := 1) (oi := { dst := some 64, op := Go.Op.nilCheck (Go.Operand.tmp 63), type := 0, pos := "data.go:137", after := #[{ on := 0, ground := Go.Ground.data }], guard := none }) (v := ?vr9_14) rfl (by kernel_rfl) (by kernel_rfl) (by kernel_rfl) (fun _ _ _ h => h) (Or.inl ⟨by rfl, ?hyr9_14⟩) (by assumption) ?rer9_14
              case hyr9_14 => (intro w hSw; (try dsimp only at hSw); go_simp; try with_reducible rfl)
              try simp only [Act.put, List.setIfInBounds_toArray, List.set_cons_zero, List.set_cons_succ]
              refine wpAnyH_take (i := 2) (oi := { dst := some 65, op := Go.Op.fieldAddr 72 (Go.Operand.tmp 64) 3, type := 0, pos := "data.go:137", after := #[{ on := 1, ground := Go.Ground.data }], guard := none }) (v := ?vr9_15) rfl (by kernel_rfl) (by kernel_rfl) (by kernel_rfl) (fun _ _ _ h => h) (Or.inl ⟨by rfl, ?hyr9_15⟩) (by assumption) ?rer9_15
              case hyr9_15 => (intro w hSw; (try dsimp only at hSw); go_simp; try with_reducible rfl)
              try simp only [Act.put, List.setIfInBounds_toArray, List.set_cons_zero, List.set_cons_succ]
              refine wpAnyH_take (i := 3) (oi := { dst := some 66, op := Go.Op.load 70 (Go.Operand.tmp 65), type := 70, pos := "data.go:137", after := #[{ on := 2, ground := Go.Ground.data }], guard := none }) (v := ?vr9_16) rfl (by kernel_rfl) (by kernel_rfl) (by kernel_rfl) (fun _ _ _ h => h) (Or.inl ⟨by rfl, ?hyr9_16⟩) (by assumption) ?rer9_16
              case hyr9_16 => (intro w hSw; (try dsimp only at hSw); go_simp; try with_reducible rfl)
              try simp only [Act.put, List.setIfInBounds_toArray, List.set_cons_zero, List.set_cons_succ]
              refine wpAnyH_take (i := 4) (oi := { dst := some 67, op := Go.Op.load 79 (Go.Operand.tmp 4), type := 79, pos := "data.go:137", after := #[], guard := none }) (v := ?vr9_17) rfl (by kernel_rfl) (by kernel_rfl) (by kernel_rfl) (fun _ _ _ h => h) (Or.inl ⟨by rfl, ?hyr9_17⟩) (by assumption) ?rer9_17
              case hyr9_17 => (intro w hSw; (try dsimp only at hSw); go_simp; try with_reducible rfl)
              try simp only [Act.put, List.setIfInBounds_toArray, List.set_cons_zero, List.set_cons_succ]
              refine wpAnyH_take (i := 5) (oi := { dst := some 68, op := Go.Op.fieldAddr 40 (Go.Operand.tmp 3) 0, type := 0, pos := "data.go:137", after := #[], guard := none }) (v := ?vr9_18) rfl (by kernel_rfl) (by kernel_rfl) (by kernel_rfl) (fun _ _ _ h => h) (Or.inl ⟨by rfl, ?hyr9_18⟩) (by assumption) ?rer9_18
              case hyr9_18 => (intro w hSw; (try dsimp only at hSw); go_simp; try with_reducible rfl)
              try simp only [Act.put, List.setIfInBounds_toArray, List.set_cons_zero, List.set_cons_succ]
              refine wpAnyH_take (i := 6) (oi := { dst := some 69, op := Go.Op.load 3 (Go.Operand.tmp 68), type := 3, pos := "data.go:137", after := #[{ on := 5, ground := Go.Ground.data }], guard := none }) (v := ?vr9_19) rfl (by kernel_rfl) (by kernel_rfl) (by kernel_rfl) (fun _ _ _ h => h) (Or.inl ⟨by rfl, ?hyr9_19⟩) (by assumption) ?rer9_19
              case hyr9_19 => (intro w hSw; (try dsimp only at hSw); go_simp; try with_reducible rfl)
              try simp only [Act.put, List.setIfInBounds_toArray, List.set_cons_zero, List.set_cons_succ]
              refine wpAnyH_ready (rs := [7]) (by kernel_rfl) (by simp) ?rdr9_20
              refine AllReadyH.cons (o := { dst := none, op := Go.Op.mapUpdate 70 (Go.Operand.tmp 66) (Go.Operand.tmp 67) (Go.Operand.tmp 69), type := 0, pos := "data.go:137", after := #[{ on := 3, ground := Go.Ground.data }, { on := 4, ground := Go.Ground.data }, { on := 6, ground := Go.Ground.data }, { on := 0, ground := Go.Ground.phase }, { on := 1, ground := Go.Ground.phase }, { on := 2, ground := Go.Ground.phase }, { on := 3, ground := Go.Ground.phase }, { on := 4, ground := Go.Ground.phase }, { on := 5, ground := Go.Ground.phase }, { on := 6, ground := Go.Ground.phase }], guard := none }) rfl (fun K hK => ?str9_20_0) AllReadyH.nil
              go_simp
              refine hK.out _ _ ?hsr9_20_0 (fun hHeld => ?rer9_20_0)
              case hsr9_20_0 => exact H4.out.2.2.2
              clear hK K
              try simp only [Act.put, List.setIfInBounds_toArray, List.set_cons_zero, List.set_cons_succ]
              refine wpAnyH_done (by kernel_rfl) ?dnr9_21 _
              gi_wp2
              obtain ⟨i1, i2, i3, i4, i5, i6, i7, hsn, hpl2, hU5, hS5⟩ := HP.out
              obtain ⟨hM4, hg4, hb23, -⟩ := H4.out
              have hb3 : Go.RowKit.Below W.heap.size W W3 := HPM.out.2.trans (hb23.mono HPM.out.2.size)
              have hbl : ∀ b_, b_ < W.heap.size → b_ ≠ w.heap.size + 2 → w4.heap[b_]? = W.heap[b_]? := fun b_ hb hne => (hg4.block b_ (Nat.lt_of_lt_of_le hb hb3.size) (fun e => hne (by injection e))).trans (hb3.block b_ hb)
              have hw4 : Go.RowKit.Below w.heap.size W w4 := ⟨hg4.os.trans hb3.os, hg4.tape.trans hb3.tape, hg4.output.trans hb3.output, Nat.le_trans hb3.size hg4.size, fun k hk => hbl k (by omega) (by omega)⟩
              refine rI_next HJ.out.2.2.2.1 HJ.out.2.2.2.2.1 HJ.out.2.2.2.2.2.1 (fun b_ hb hk => ?_) hw4 ⟨l ++ [((a, b), x.first)], ?_, (hbl _ (blk_lt i2) (by omega)).trans i2, (hbl _ (blk_lt i3) (by omega)).trans i3, hM4, (hbl _ (blk_lt i5) (by omega)).trans i5, grown_below i6 hw4 (Nat.le_refl _), by have := hw4.size; omega⟩
              · have hne : b_ ≠ w.heap.size + 2 := by
                  have := HI.out.2.2.2.2.2.2
                  rcases hk with hk | hk | hk <;> omega
                exact hbl b_ hb hne
              · rw [hsn [x], pairF, if_neg (by rw [HSK.out]; decide), if_neg (by rw [HAB.out]; show ¬ (lookP l (a, b)).isSome = true; rw [HLK.out]; decide), pairF]
                rw [HAB.out]
                rfl
          · have c15 := c15a
            have hFb : (q != 0) = true := bne_iff_ne.2 hF
            have HSK := Aside0.mk (show skipR rs p0 x = true by unfold skipR; rw [HAB.out]; show (_ || (rowAt rs a).ccc != 0) = true; rw [← HQ.out, hFb]; simp)
            clear c15a hF
            gi_wp2
            refine wpIn_round_quiet_below (by kernel_rfl) (by kernel_rfl) (by rintro ⟨a_, w_, h_⟩; exact h_) (by kernel_rfl) ?_
            repeat (go_big_quiet_step (first | exact c14 _ _ | exact c15 _ _))
            refine wpQuiet_nil ?_
            intro _ hw'
            obtain ⟨⟨dq, osq⟩, hw''⟩ := hw'
            subst hw''
            gi_wp2
            exact HSE.out dq osq HSK.out
      · have hBb : (x.ccc != 0) = true := bne_iff_ne.2 hB
        have HSK := Aside0.mk (show skipR rs p0 x = true by unfold skipR; rw [hBb]; simp)
        clear hab hB
        gi_wp2
        refine wpIn_round_quiet_below (by kernel_rfl) (by kernel_rfl) (by rintro ⟨a_, w_, h_⟩; exact h_) (by kernel_rfl) ?_
        repeat (go_big_quiet_step (fail))
        refine wpQuiet_nil ?_
        intro _ hw'
        obtain ⟨⟨dq, osq⟩, hw''⟩ := hw'
        subst hw''
        gi_wp2
        exact HSE.out dq osq HSK.out
    · have hAz : ¬ ((x.dec.length : Int) = 2) := by omega
      have hAb : ((x.dec.length : Int) != 2) = true := bne_iff_ne.2 hAz
      have hAc : (x.dec.length != 2) = true := bne_iff_ne.2 hA
      have HSK := Aside0.mk (show skipR rs p0 x = true by unfold skipR; rw [hAc]; simp)
      clear hA hAc
      gi_wp2
      refine wpIn_round_quiet_below (by kernel_rfl) (by kernel_rfl) (by rintro ⟨a_, w_, h_⟩; exact h_) (by kernel_rfl) ?_
      repeat (go_big_quiet_step (fail))
      refine wpQuiet_nil ?_
      intro _ hw'
      obtain ⟨⟨dq, osq⟩, hw''⟩ := hw'
      subst hw''
      gi_wp2
      exact HSE.out dq osq HSK.out
  case done =>
    rintro W ⟨l, i1, i2, i3, i4, i5, i6, i7⟩ hW hDf
    have y1 : W.cell? ⟨w.heap.size + 1, 0, none⟩ = some _ := (blk_cell i3 0).trans rfl
    have z1 := blk_frozen i3 0
    have HJ := Aside0.mk (And.intro i1 (And.intro i3 (And.intro i4 (And.intro i5 (And.intro i6 hDf)))))
    clear i1 i2 i3 i4 i5 i6 hDf
    gi_wp2
    go_wp2
    obtain ⟨i1, i3, i4, i5, i6, hDf⟩ := HJ.out
    have hs7 := HI.out.2.2.2.1
    obtain ⟨W8, hW8⟩ : ∃ W8, W8 = W.setCell ⟨w.heap.size + 1, 0, none⟩ (.bool true) := ⟨_, rfl⟩
    rw [← hW8]
    have far8 : ∀ k, k ≠ w.heap.size + 1 → W8.heap[k]? = W.heap[k]? := fun k hk => by rw [hW8]; exact Go.RowKit.Below.heap_setCell W ⟨w.heap.size + 1, 0, none⟩ _ k hk
    have hD8 : W8.heap[Wr.heap.size]? = some (.deferred (some [])) := (far8 _ (by omega)).trans hDf
    have h8 : W8.heap[w.heap.size + 1]? = some (.cells #[.bool true] 4 (0, 0)) := by rw [hW8]; exact blk_set i3 0 _
    have b8 : Go.RowKit.Below w.heap.size W W8 := by rw [hW8]; exact (Go.RowKit.Below.refl w.heap.size W).setCell (p := ⟨w.heap.size + 1, 0, none⟩) (by show w.heap.size ≤ w.heap.size + 1; omega) _
    refine ⟨by simp, .inl ⟨_, _, rfl, run_takeDeferred hD8, ?_⟩⟩
    refine ⟨_, results_bool rfl _ _ ⟨w.heap.size + 1, 0, none⟩ true rfl ?_, ?_⟩
    · exact (blk_cell ((World.putObj_heap_other (by omega)).trans h8) 0).trans rfl
    · rw [HPP.out, i1]
      refine ⟨rfl, grown_below (grown_below i6 b8 (Nat.le_refl _)) (below_put W8 Wr.heap.size w.heap.size _ (by omega)) (Nat.le_refl _), fun l' hl' => ?_⟩
      injection hl' with hl'
      subst hl'
      exact ⟨((World.putObj_heap_other (by omega)).trans (far8 _ (by omega))).trans i5, MapIs.block i4 ((World.putObj_heap_other (by omega)).trans (far8 _ (by omega)))⟩
  case stop =>
    rintro c pre x r W hx ⟨rfl, hnone, hres, hb⟩ hDf
    have hs7 := HI.out.2.2.2.1
    gi_wp2
    go_wp2
    refine ⟨by simp, .inl ⟨_, _, rfl, run_takeDeferred hDf, ?_⟩⟩
    refine ⟨_, results_bool rfl _ _ ⟨w.heap.size + 1, 0, none⟩ false rfl ?_, ?_⟩
    · exact (blk_cell ((World.putObj_heap_other (by omega)).trans hres) 0).trans rfl
    · have hnn : pairF rs p0 rs [] = none := by
        have h := pairF_none rs p0 (pre ++ [x]) [] r hnone
        rw [List.append_assoc] at h
        rw [show rs = pre ++ ([x] ++ r) from hx] at *
        exact h
      rw [HPP.out, hnn]
      exact ⟨rfl, grown_below hb (below_put W Wr.heap.size w.heap.size _ (by omega)) (Nat.le_refl _), fun l' hl' => by cases hl'⟩
end Go.Proofs.YtebgebgkieglhaaGreatDoor.FieldW
end
section
/- data: files, what its walk leans on. -/
namespace Go.Proofs.YtebgebgkieglhaaGreatDoor.FieldW
open Go.RowKit Go.Shelf Go.Lib Go.Proofs Go.Proofs.YtebgebgkieglhaaGreatDoorW.PrintWords Go.Proofs.YtebgebgkieglhaaGreatDoorW.PrintLast Go.Proofs.YtebgebgkieglhaaGreatDoorW.PrintMore Go.Proofs.YtebgebgkieglhaaGreatDoor.PRef
set_option linter.unusedVariables false
set_option linter.unusedSimpArgs false


/-- While files runs: the world, from w on; the argument's box, and the result, not written yet. -/
structure FRel (w0 w : World) (D : Nat) (bx : Array Value) (W : World) : Prop where
  b0 : Go.RowKit.Below w0.heap.size w0 W
  gr : w.grownBy W (some D)
  box : W.heap[w.heap.size]? = some (.cells bx 24 (0, 0))
  res : W.heap[w.heap.size + 1]? = some (.cells #[.int .i64 0, .int .i64 0, .int .i64 0] 30 (0, 0))
theorem grown_then {A B C : World} {D : Nat} (h : A.grownBy B (some D)) (hb : Go.RowKit.Below B.heap.size B C) : A.grownBy C (some D) :=
  ⟨hb.os.trans h.os, hb.tape.trans h.tape, hb.output.trans h.output, Nat.le_trans h.size hb.size, fun k hk hne => (hb.block k (Nat.lt_of_lt_of_le hk h.size)).trans (h.block k hk hne)⟩
theorem FRel.below {w0 w : World} {D : Nat} {bx : Array Value} {W W' : World} (h : FRel w0 w D bx W) (hb : Go.RowKit.Below W.heap.size W W') : FRel w0 w D bx W' :=
  ⟨h.b0.trans (hb.mono h.b0.size), grown_then h.gr hb, (hb.block _ (blk_lt h.box)).trans h.box, (hb.block _ (blk_lt h.res)).trans h.res⟩
theorem FRel.setD {w0 w : World} {D : Nat} {bx : Array Value} {W : World} (h : FRel w0 w D bx W) (h0 : w0.heap.size ≤ D) (hD : D < w.heap.size) (i : Nat) (u : Value) : FRel w0 w D bx (W.setCell ⟨D, i, none⟩ u) := by
  have far : ∀ k, k ≠ D → (W.setCell ⟨D, i, none⟩ u).heap[k]? = W.heap[k]? := fun k hk => Go.RowKit.Below.heap_setCell W ⟨D, i, none⟩ u k hk
  have g := grown_set9 W ⟨D, i, none⟩ u
  refine ⟨h.b0.setCell (p := ⟨D, i, none⟩) h0 _, ⟨g.os.trans h.gr.os, g.tape.trans h.gr.tape, g.output.trans h.gr.output, Nat.le_trans h.gr.size g.size, fun k hk hne => ?_⟩, (far _ (by omega)).trans h.box, (far _ (by omega)).trans h.res⟩
  exact (far k (fun e => hne (by rw [e]))).trans (h.gr.block k hk hne)
theorem FRel.fin {w0 w : World} {D : Nat} {bx : Array Value} {W : World} (h : FRel w0 w D bx W) (h0 : w0.heap.size ≤ w.heap.size) (F L E : Value) :
    (((W.setCell ⟨w.heap.size + 1, 0, none⟩ F).setCell ⟨w.heap.size + 1, 1, none⟩ L).setCell ⟨w.heap.size + 1, 2, none⟩ E).heap[w.heap.size + 1]? = some (.cells #[F, L, E] 30 (0, 0)) ∧
    Go.RowKit.Below w0.heap.size w0 (((W.setCell ⟨w.heap.size + 1, 0, none⟩ F).setCell ⟨w.heap.size + 1, 1, none⟩ L).setCell ⟨w.heap.size + 1, 2, none⟩ E) ∧
    w.grownBy (((W.setCell ⟨w.heap.size + 1, 0, none⟩ F).setCell ⟨w.heap.size + 1, 1, none⟩ L).setCell ⟨w.heap.size + 1, 2, none⟩ E) (some D) := by
  obtain ⟨s1, s2, s3⟩ := three_set F L E h.res
  refine ⟨s1, s2 _ (by omega) _ h.b0, ?_⟩
  have g : ∀ (A : World) (i : Nat) (u : Value), w.grownBy A (some D) → w.grownBy (A.setCell ⟨w.heap.size + 1, i, none⟩ u) (some D) := fun A i u hA => by
    have g := grown_set9 A ⟨w.heap.size + 1, i, none⟩ u
    exact ⟨g.os.trans hA.os, g.tape.trans hA.tape, g.output.trans hA.output, Nat.le_trans hA.size g.size, fun k hk hne => (Go.RowKit.Below.heap_setCell A ⟨w.heap.size + 1, i, none⟩ u k (by show k ≠ w.heap.size + 1; omega)).trans (hA.block k hk hne)⟩
  exact g _ _ _ (g _ _ _ (g _ _ _ h.gr))
theorem frel_start {w0 w : World} {D : Nat} (bx : Array Value) (hw : Go.RowKit.Below w0.heap.size w0 w) : FRel w0 w D bx ((w.alloc (.cells bx 24)).alloc (.cells #[.int .i64 0, .int .i64 0, .int .i64 0] 30)) := by
  have hb : Go.RowKit.Below w.heap.size w ((w.alloc (.cells bx 24)).alloc (.cells #[.int .i64 0, .int .i64 0, .int .i64 0] 30)) := below_alloc (below_alloc (Go.RowKit.Below.refl _ _) _) _
  refine ⟨hw.trans (hb.mono hw.size), ⟨hb.os, hb.tape, hb.output, hb.size, fun k hk _ => hb.block k hk⟩, ?_, ?_⟩
  · exact (Go.RowKit.Below.heap_alloc _ _ _ (by simp)).trans (heap_alloc_new _ _)
  · have := heap_alloc_new (w.alloc (.cells bx 24)) (.cells #[.int .i64 0, .int .i64 0, .int .i64 0] 30)
    rw [World.size_alloc] at this
    exact this
/-- A value of the data's block, and what is stored over it. -/
theorem dset {W : World} {D gu : Nat} {gs : List Nat} {c m : Value} {g : Nat} (h : W.heap[D]? = some (.cells (dCells gu gs c m).toArray 72 (0, 0))) (hg : gs.length < 5) :
    (W.setCell ⟨D, 1 + gs.length, none⟩ (ptr g)).heap[D]? = some (.cells (dCells gu (gs ++ [g]) c m).toArray 72 (0, 0)) := by
  have h1 := blk_set h (1 + gs.length) (ptr g)
  rw [← (dCells_set gu gs c m g hg).1]
  simpa using h1
end Go.Proofs.YtebgebgkieglhaaGreatDoor.FieldW
end
section
/- data: files is walked. -/
namespace Go.Proofs.YtebgebgkieglhaaGreatDoor.FieldW
open Go.RowKit Go.Shelf Go.Lib Go.Proofs Go.Proofs.YtebgebgkieglhaaGreatDoorW.PrintWords Go.Proofs.YtebgebgkieglhaaGreatDoorW.PrintLast Go.Proofs.YtebgebgkieglhaaGreatDoorW.PrintMore Go.Proofs.YtebgebgkieglhaaGreatDoor.PRef
set_option linter.unusedVariables false
set_option linter.unusedSimpArgs false
open Go
attribute [local go_sem] Oper.semAt_some


theorem resS_ptr {base : Nat} {r : Option (List USpan)} {p : Value} {w : World} (h : resS base r p w) : ∃ q, p = .pointer q := by
  unfold resS at h
  cases r with
  | none => exact ⟨_, h⟩
  | some l => obtain ⟨g, h, _⟩ := h; exact ⟨_, h⟩
set_option maxHeartbeats 8000000 in
set_option maxRecDepth 100000 in
theorem files_calls (w0 w : World) (D : Nat) (v0 v1 v2 v3 v4 v5 v6 : Value) (b : Bun) (h0 : FileA w0 v0 b.uni) (h1 : FileA w0 v1 b.exc) (h2 : FileA w0 v2 b.ign) (h3 : FileA w0 v3 b.idn) (h4 : FileA w0 v4 b.scr) (h5 : FileA w0 v5 b.joi) (h6 : FileA w0 v6 b.con)
    (hw : Go.RowKit.Below w0.heap.size w0 w) (hD0 : w0.heap.size ≤ D) (hD : w.heap[D]? = some (.cells #[.pointer none, .pointer none, .pointer none, .pointer none, .pointer none, .pointer none, .pointer none, .map none] 72 (0, 0))) (T : Tabs w0) :
    Calls Tryz.prog 35 #[.pointer (some ⟨D, 0, none⟩), .agg #[v0, v1, v2, v3, v4, v5, v6]] w fun e w' => ∃ F L E : Int, (filesS b).2 = (F, L, E) ∧ e = .returned (.agg #[.int .i64 F, .int .i64 L, .int .i64 E]) ∧ Go.RowKit.Below w0.heap.size w0 w' ∧ w.grownBy w' (some D) ∧ ∀ d, (filesS b).1 = some d → DatM w' (D + 1) D (.map none) d := by
  obtain ⟨A0, c0, rfl, hC0, hl0⟩ := h0
  obtain ⟨A1, c1, rfl, hC1, hl1⟩ := h1
  obtain ⟨A2, c2, rfl, hC2, hl2⟩ := h2
  obtain ⟨A3, c3, rfl, hC3, hl3⟩ := h3
  obtain ⟨A4, c4, rfl, hC4, hl4⟩ := h4
  obtain ⟨A5, c5, rfl, hC5, hl5⟩ := h5
  obtain ⟨A6, c6, rfl, hC6, hl6⟩ := h6
  have hDl : D < w.heap.size := blk_lt hD
  obtain ⟨PP, hPP⟩ : ∃ PP : Ending → World → Prop, PP = fun e w' => ∃ F L E : Int, (filesS b).2 = (F, L, E) ∧ e = .returned (.agg #[.int .i64 F, .int .i64 L, .int .i64 E]) ∧ Go.RowKit.Below w0.heap.size w0 w' ∧ w.grownBy w' (some D) ∧ ∀ d, (filesS b).1 = some d → DatM w' (D + 1) D (.map none) d := ⟨_, rfl⟩
  rw [← hPP]
  have HPP := Aside0.mk hPP
  obtain ⟨bx, hbx⟩ : ∃ bx : Array Value, bx = #[.slice A0 b.uni.length c0, .slice A1 b.exc.length c1, .slice A2 b.ign.length c2, .slice A3 b.idn.length c3, .slice A4 b.scr.length c4, .slice A5 b.joi.length c5, .slice A6 b.con.length c6] := ⟨_, rfl⟩
  have hst := frel_start (D := D) bx hw
  rw [hbx] at hst
  have HBX := Aside0.mk hbx
  have HC := Aside0.mk (And.intro hC0 (And.intro hC1 (And.intro hC2 (And.intro hC3 (And.intro hC4 (And.intro hC5 hC6))))))
  have HLn := Aside0.mk (And.intro hl0 (And.intro hl1 (And.intro hl2 (And.intro hl3 (And.intro hl4 (And.intro hl5 hl6))))))
  have HT := Aside0.mk T
  have HW := Aside0.mk (And.intro hw (And.intro hD0 hD))
  have hst1 := hst.box
  have hst2 := hst.res
  have hstD := (hst.gr.block D hDl)
  have HST := Aside0.mk (And.intro hst (And.intro hst1 hst2))
  clear hPP hbx hst hst1 hst2 hstD hC0 hC1 hC2 hC3 hC4 hC5 hC6 hl0 hl1 hl2 hl3 hl4 hl5 hl6 hw hD T
  go_enter Tryz.func35, Tryz.ntmps35
  go_wp2_with (first
    | (go_at_call 57; refine Aside0.out ?_))
  refine Aside0.mk ?_
  obtain ⟨W2, hW2⟩ : ∃ W2, W2 = ((w.alloc (.cells #[.slice A0 b.uni.length c0, .slice A1 b.exc.length c1, .slice A2 b.ign.length c2, .slice A3 b.idn.length c3, .slice A4 b.scr.length c4, .slice A5 b.joi.length c5, .slice A6 b.con.length c6] 24)).alloc (.cells #[.int .i64 0, .int .i64 0, .int .i64 0] 30)) := ⟨_, rfl⟩
  rw [← hW2]
  have HS2 := HST.out.1
  rw [← hW2] at HS2
  have hs2 : W2.heap.size = w.heap.size + 2 := by rw [hW2]; simp
  have hb2 : Go.RowKit.Below w.heap.size w W2 := by rw [hW2]; exact below_alloc (below_alloc (Go.RowKit.Below.refl _ _) _) _
  have hD2 := (hb2.block _ hDl).trans HW.out.2.2
  refine (parseU_calls A0 c0 b.uni W2 (Kd.C_below HC.out.1 HS2.b0) HLn.out.1 (HT.out.below HS2.b0)).mono ?_
  rintro e W3 ⟨p, rfl, hb3, hr3⟩
  have HS3 := HS2.below hb3
  have hD3 := (hb3.block _ (blk_lt hD2)).trans hD2
  have d0 : W3.cell? ⟨D, 0, none⟩ = some (.pointer none) := (blk_cell hD3 0).trans rfl
  have f0 := blk_frozen hD3 0
  have hg3 : UTab W3 W2.heap.size 0 [] → True := fun _ => trivial
  obtain ⟨E, hE⟩ : ∃ E, E = (parseU b.uni).2.1 := ⟨_, rfl⟩
  obtain ⟨L, hL⟩ : ∃ L, L = (parseU b.uni).2.2 := ⟨_, rfl⟩
  rw [← hE, ← hL]
  have HEL := Aside0.mk (And.intro hE hL)
  cases hU : (parseU b.uni).1 with
  | none =>
    rw [hU] at hr3
    have hp : p = .pointer none := hr3
    subst hp
    have HS4 := HS3.setD HW.out.2.1 hDl 0 (.pointer none)
    have hEz : (E != 0) = true := bne_iff_ne.2 (by rw [hE]; exact parseU_bad _ hU)
    have r0 : (W3.setCell ⟨D, 0, none⟩ (.pointer none)).cell? ⟨w.heap.size + 1, 0, none⟩ = some (.int .i64 0) := (blk_cell HS4.res 0).trans rfl
    have r1 : (W3.setCell ⟨D, 0, none⟩ (.pointer none)).cell? ⟨w.heap.size + 1, 1, none⟩ = some (.int .i64 0) := (blk_cell HS4.res 1).trans rfl
    have r2 : (W3.setCell ⟨D, 0, none⟩ (.pointer none)).cell? ⟨w.heap.size + 1, 2, none⟩ = some (.int .i64 0) := (blk_cell HS4.res 2).trans rfl
    have z0 := blk_frozen HS4.res 0
    have z1 := blk_frozen HS4.res 1
    have z2 := blk_frozen HS4.res 2
    have H4 := Aside0.mk HS4
    have HU := Aside0.mk hU
    clear hE hL hr3 hU HS4 HS3 HS2 hW2 hb2 hD2 hb3 hD3 hg3
    go_wp2
    obtain ⟨s1, s2, s3⟩ := H4.out.fin (by have := HW.out.1.size; exact this) (.int .i64 1) (.int .i64 L) (.int .i64 E)
    refine bodyPost_ret (results_cell_row rfl _ _ (w.heap.size + 1) 30 #[.int .i64 1, .int .i64 L, .int .i64 E] _ _ rfl s1 Tryz.underlying30 rfl (by kernel_rfl)) rfl ?_
    rw [HPP.out]
    refine ⟨1, L, E, ?_, rfl, s2, s3, ?_⟩
    · unfold filesS; rw [HU.out, HEL.out.1, HEL.out.2]
    · unfold filesS; rw [HU.out]; exact fun d hd => by cases hd
  | some rs =>
    rw [hU] at hr3
    obtain ⟨gu, rfl, hT3⟩ := hr3
    have hE0 : E = 0 := by rw [hE, (parseU_good _ HLn.out.1 hU).2.2]
    subst hE0
    have HS4 := HS3.setD HW.out.2.1 hDl 0 (.pointer (some ⟨gu, 0, none⟩))
    have hD4 := blk_set hD3 0 (.pointer (some ⟨gu, 0, none⟩))
    have hT4 : UTab (W3.setCell ⟨D, 0, none⟩ (.pointer (some ⟨gu, 0, none⟩))) (w.heap.size + 2) gu rs := (hT3.lower (by omega)).far (by show D < w.heap.size + 2; omega) _
    have b0 : (W3.setCell ⟨D, 0, none⟩ (.pointer (some ⟨gu, 0, none⟩))).cell? ⟨w.heap.size, 0, none⟩ = some _ := (blk_cell HS4.box 0).trans rfl
    have H4 := Aside0.mk (And.intro HS4 (And.intro hD4 hT4))
    have HU := Aside0.mk hU
    clear hE hL hU HS4 HS3 HS2 hW2 hb2 hD2 hb3 hD3 hg3 hD4 hT4 hT3
    go_upto_region 6 with (fail)
    obtain ⟨W4, hW4⟩ : ∃ W4, W4 = W3.setCell ⟨D, 0, none⟩ (.pointer (some ⟨gu, 0, none⟩)) := ⟨_, rfl⟩
    rw [← hW4] at H4 b0 ⊢
    clear hW4
    have st0 := Go.Proofs.YtebgebgkieglhaaGreatDoor.PU.data_statuses.calls stL
    have HSt := Aside0.mk st0
    clear st0 b0 d0 f0
    go_wp2_with (first
      | (go_at_call 54; refine Aside0.out ?_))
    refine Aside0.mk ?_
    obtain ⟨W5, hW5⟩ : ∃ W5, W5 = ((W4.alloc (.cells #[.string ⟨#[70, 117, 108, 108, 95, 67, 111, 109, 112, 111, 115, 105, 116, 105, 111, 110, 95, 69, 120, 99, 108, 117, 115, 105, 111, 110]⟩] 9)).alloc (.cells #[.string ⟨#[68, 101, 102, 97, 117, 108, 116, 95, 73, 103, 110, 111, 114, 97, 98, 108, 101, 95, 67, 111, 100, 101, 95, 80, 111, 105, 110, 116]⟩] 9)) := ⟨_, rfl⟩
    have hb45 : Go.RowKit.Below W4.heap.size W4 W5 := by rw [hW5]; exact below_alloc (below_alloc (Go.RowKit.Below.refl _ _) _) _
    have x0 : W5.heap[W4.heap.size]? = some (.cells (([exB] : List ByteArray).map Value.string).toArray 9 (0, 0)) := by rw [hW5]; exact (Go.RowKit.Below.heap_alloc _ _ _ (by simp)).trans (heap_alloc_new _ _)
    have x1 : W5.heap[W4.heap.size + 1]? = some (.cells (([igB] : List ByteArray).map Value.string).toArray 9 (0, 0)) := by
      have h := heap_alloc_new (W4.alloc (.cells #[.string ⟨#[70, 117, 108, 108, 95, 67, 111, 109, 112, 111, 115, 105, 116, 105, 111, 110, 95, 69, 120, 99, 108, 117, 115, 105, 111, 110]⟩] 9)) (.cells #[.string ⟨#[68, 101, 102, 97, 117, 108, 116, 95, 73, 103, 110, 111, 114, 97, 98, 108, 101, 95, 67, 111, 100, 101, 95, 80, 111, 105, 110, 116]⟩] 9)
      rw [World.size_alloc] at h
      rw [hW5]
      exact h
    rw [← hW5]
    refine (HSt.out W5 rfl).mono ?_
    rintro e W6 ⟨v7, rfl, hR7, hb56⟩
    have hb46 : Go.RowKit.Below W4.heap.size W4 W6 := hb45.trans (hb56.mono hb45.size)
    have HS6 := H4.out.1.below hb46
    obtain ⟨A7, c7, rfl⟩ := Kd.R_slice hR7
    have y0 := (hb56.block _ (blk_lt x0)).trans x0
    have y1 := (hb56.block _ (blk_lt x1)).trans x1
    have B1 : ∀ o, (W6.alloc o).cell? ⟨w.heap.size, 1, none⟩ = some (.slice A1 b.exc.length c1) := fun o => cell_grows9 ((blk_cell HS6.box 1).trans rfl)
    have B2 : ∀ o, (W6.alloc o).cell? ⟨w.heap.size, 2, none⟩ = some (.slice A2 b.ign.length c2) := fun o => cell_grows9 ((blk_cell HS6.box 2).trans rfl)
    have B3 : ∀ o, (W6.alloc o).cell? ⟨w.heap.size, 3, none⟩ = some (.slice A3 b.idn.length c3) := fun o => cell_grows9 ((blk_cell HS6.box 3).trans rfl)
    have B4 : ∀ o, (W6.alloc o).cell? ⟨w.heap.size, 4, none⟩ = some (.slice A4 b.scr.length c4) := fun o => cell_grows9 ((blk_cell HS6.box 4).trans rfl)
    have B5 : ∀ o, (W6.alloc o).cell? ⟨w.heap.size, 5, none⟩ = some (.slice A5 b.joi.length c5) := fun o => cell_grows9 ((blk_cell HS6.box 5).trans rfl)
    have H6 := Aside0.mk (And.intro HS6 (And.intro hR7 (And.intro hb46 (And.intro y0 (And.intro y1 hb56)))))
    have H5 := Aside0.mk (And.intro hb45 hW5)
    clear HS6 hR7 hb46 y0 y1 hb56 hb45 hW5 x0 x1
    go_wp2
    obtain ⟨W7, hW7⟩ : ∃ W7, W7 = ((W6.alloc (.cells #[.slice (some ⟨W4.heap.size, 0, none⟩) 1 1, .slice (some ⟨W4.heap.size + 1, 0, none⟩) 1 1, .slice A7 stL.length c7, .slice none 0 0, .slice none 0 0] 98)).alloc (.cells #[.slice A1 b.exc.length c1, .slice A2 b.ign.length c2, .slice A3 b.idn.length c3, .slice A4 b.scr.length c4, .slice A5 b.joi.length c5] 22)) := ⟨_, rfl⟩
    have hb67 : Go.RowKit.Below W6.heap.size W6 W7 := by rw [hW7]; exact below_alloc (below_alloc (Go.RowKit.Below.refl _ _) _) _
    have hV7 : W7.heap[W6.heap.size]? = some (.cells #[.slice (some ⟨W4.heap.size, 0, none⟩) 1 1, .slice (some ⟨W4.heap.size + 1, 0, none⟩) 1 1, .slice A7 stL.length c7, .slice none 0 0, .slice none 0 0] 98 (0, 0)) := by rw [hW7]; exact (Go.RowKit.Below.heap_alloc _ _ _ (by simp)).trans (heap_alloc_new _ _)
    have hF7 : W7.heap[W6.heap.size + 1]? = some (.cells #[.slice A1 b.exc.length c1, .slice A2 b.ign.length c2, .slice A3 b.idn.length c3, .slice A4 b.scr.length c4, .slice A5 b.joi.length c5] 22 (0, 0)) := by
      have h := heap_alloc_new (W6.alloc (.cells #[.slice (some ⟨W4.heap.size, 0, none⟩) 1 1, .slice (some ⟨W4.heap.size + 1, 0, none⟩) 1 1, .slice A7 stL.length c7, .slice none 0 0, .slice none 0 0] 98)) (.cells #[.slice A1 b.exc.length c1, .slice A2 b.ign.length c2, .slice A3 b.idn.length c3, .slice A4 b.scr.length c4, .slice A5 b.joi.length c5] 22)
      rw [World.size_alloc] at h
      rw [hW7]
      exact h
    have hs7 : W7.heap.size = W6.heap.size + 2 := by rw [hW7]; simp
    rw [← hW7]
    have hb47 : Go.RowKit.Below W4.heap.size W4 W7 := H6.out.2.2.1.trans (hb67.mono H6.out.2.2.1.size)
    have HS7 := H4.out.1.below hb47
    have hD4l : D < W4.heap.size := blk_lt H4.out.2.1
    have hD7 := (hb47.block _ hD4l).trans H4.out.2.1
    -- the lists of values, the files
    have hvals : ∀ k, k < 5 → ∃ V vbase vals, (#[.slice (some ⟨W4.heap.size, 0, none⟩) 1 1, .slice (some ⟨W4.heap.size + 1, 0, none⟩) 1 1, .slice A7 stL.length c7, .slice none 0 0, .slice none 0 0] : Array Value)[k]? = some V ∧ valsOf[k]? = some vals ∧ Kd.R Kd.string 9 W7 vbase (fun j => j ≠ D) V vals ∧ vals.length ≤ 1000 := by
      intro k hk
      obtain rfl | rfl | rfl | rfl | rfl : k = 0 ∨ k = 1 ∨ k = 2 ∨ k = 3 ∨ k = 4 := by omega
      · exact ⟨_, W4.heap.size, _, rfl, rfl, R_strs ((hb67.block _ (blk_lt H6.out.2.2.2.1)).trans H6.out.2.2.2.1) (Nat.le_refl _) (by omega) (by decide), by decide⟩
      · exact ⟨_, W4.heap.size, _, rfl, rfl, R_strs ((hb67.block _ (blk_lt H6.out.2.2.2.2.1)).trans H6.out.2.2.2.2.1) (by omega) (by omega) (by decide), by decide⟩
      · have hz : W4.heap.size ≤ W5.heap.size := H5.out.1.size
        exact ⟨_, W5.heap.size, _, rfl, rfl, Kd.R_mono (Kd.R_bound (Kd.R_below H6.out.2.1 hb67)) (fun j hj => by have := hj.2.1; omega), by decide⟩
      · exact ⟨_, 0, _, rfl, rfl, Kd.R_nil _ _ _ _ _, by decide⟩
      · exact ⟨_, 0, _, rfl, rfl, Kd.R_nil _ _ _ _ _, by decide⟩
    have hfiles : ∀ k, k < 5 → ∃ A c f, (#[.slice A1 b.exc.length c1, .slice A2 b.ign.length c2, .slice A3 b.idn.length c3, .slice A4 b.scr.length c4, .slice A5 b.joi.length c5] : Array Value)[k]? = some (.slice A f.length c) ∧ b.mid[k]? = some f ∧ Kd.C (Kd.int .u8) w0 A f.length (numB f) ∧ f.length ≤ 100000 := by
      intro k hk
      obtain ⟨C0, C1, C2, C3, C4, C5, C6⟩ := HC.out
      obtain ⟨l0, l1, l2, l3, l4, l5, l6⟩ := HLn.out
      obtain rfl | rfl | rfl | rfl | rfl : k = 0 ∨ k = 1 ∨ k = 2 ∨ k = 3 ∨ k = 4 := by omega
      · exact ⟨_, _, _, rfl, rfl, C1, l1⟩
      · exact ⟨_, _, _, rfl, rfl, C2, l2⟩
      · exact ⟨_, _, _, rfl, rfl, C3, l3⟩
      · exact ⟨_, _, _, rfl, rfl, C4, l4⟩
      · exact ⟨_, _, _, rfl, rfl, C5, l5⟩
    have H7 := Aside0.mk (And.intro HS7 (And.intro hD7 (And.intro hV7 (And.intro hF7 (And.intro hs7 (And.intro (H4.out.2.2.below hb47) (And.intro hb47 hD4l)))))))
    have HV := Aside0.mk (And.intro hvals hfiles)
    clear hW7 hb67 hV7 hF7 hs7 hb47 HS7 hD4l hD7 hvals hfiles B1 B2 B3 B4 B5
    go_loopw [41] (fun iv wr => ∃ k gs ps, k ≤ 5 ∧ iv = .int .i64 (k : Nat) ∧ midS ((valsOf.zip b.mid).take k) 0 = (some ps, 0, 0, 0) ∧ gs.length = k ∧ wr.heap[D]? = some (.cells (dCells gu gs (.pointer none) (.map none)).toArray 72 (0, 0)) ∧ PTabs wr (w.heap.size + 2) gs ps ∧ UTab wr (w.heap.size + 2) gu rs ∧ FRel w0 w D #[.slice A0 b.uni.length c0, .slice A1 b.exc.length c1, .slice A2 b.ign.length c2, .slice A3 b.idn.length c3, .slice A4 b.scr.length c4, .slice A5 b.joi.length c5, .slice A6 b.con.length c6] wr ∧ W7.grownBy wr (some D)) (fun iv wr => 5 - (intOf iv).toNat)
    case atStart => exact ⟨0, [], [], by omega, rfl, rfl, rfl, H7.out.2.1, ⟨rfl, fun j g l h => by cases h⟩, H7.out.2.2.2.2.2.1, H7.out.1, ⟨rfl, rfl, rfl, Nat.le_refl _, fun _ _ _ => rfl⟩⟩
    case round =>
      obtain ⟨k, gs, ps, hk, rfl, hmid, hgl, hDr, hPT, hUT, hFR, hGr⟩ := hrel
      have h7l := H7.out.2.2.2.2.1
      have hD46 : D < W4.heap.size := H7.out.2.2.2.2.2.2.2
      have h46 : W4.heap.size ≤ W6.heap.size := H6.out.2.2.1.size
      by_cases hk5 : k < 5
      · obtain ⟨V, vbase, vals, hVk, hvk, hVR, hvl⟩ := HV.out.1 k hk5
        obtain ⟨AF, cF, f, hFk, hfk, hFC, hfl⟩ := HV.out.2 k hk5
        have hVR2 : Kd.R Kd.string 9 wr vbase (fun j => j ≠ D) V vals := Kd.R_mono (Kd.R_step (Kd.R_bound hVR) (fun j hj hlt => hGr.block j hlt (fun e => hj.1 (by cases e; rfl)))) (fun j hj => hj.1)
        obtain ⟨AV, cV, rfl⟩ := Kd.R_slice hVR2
        have vbk := (hGr.block _ (blk_lt H7.out.2.2.1) (fun e => by injection e with e; omega)).trans H7.out.2.2.1
        have fbk := (hGr.block _ (blk_lt H7.out.2.2.2.1) (fun e => by injection e with e; omega)).trans H7.out.2.2.2.1
        have vcell : wr.cell? ⟨W6.heap.size, k, none⟩ = some (.slice AV vals.length cV) := (blk_cell vbk k).trans hVk
        have fcell : wr.cell? ⟨W6.heap.size + 1, k, none⟩ = some (.slice AF f.length cF) := (blk_cell fbk k).trans hFk
        have CP0 := fun W (hW : Go.RowKit.Below wr.heap.size wr W) => parseP_calls AF cF f (.slice AV vals.length cV) vbase _ vals W (Kd.C_below hFC (hFR.b0.trans (hW.mono hFR.b0.size))) hfl (Kd.R_below hVR2 hW) hvl (HT.out.below (hFR.b0.trans (hW.mono hFR.b0.size)))
        obtain ⟨E2, hE2⟩ : ∃ E2, E2 = (parseP vals f).2.1 := ⟨_, rfl⟩
        obtain ⟨L2, hL2⟩ : ∃ L2, L2 = (parseP vals f).2.2 := ⟨_, rfl⟩
        rw [← hE2, ← hL2] at CP0
        have CP := Aside0.mk CP0
        have hkz : (k : Int) < 5 := by omega
        have hdc : (dCells gu gs (.pointer none) (.map none))[1 + k]? = some (.pointer none) := by rw [← hgl]; exact (dCells_set gu gs (.pointer none) (.map none) 0 (by omega)).2
        have HR := Aside0.mk (And.intro hmid (And.intro hgl (And.intro hDr (And.intro hPT (And.intro hUT (And.intro hFR (And.intro hGr (And.intro hvk (And.intro hfk (And.intro hE2 (And.intro hL2 hdc)))))))))))
        clear CP0 hmid hgl hDr hPT hUT hFR hGr hvk hfk hE2 hL2 hdc hVR hVR2 vbk fbk hVk hFk hFC
        go_upto_region 10 with (fail)
        go_region_law (go_simp; go_at_call 58; refine (CP.out _ (below_drew1 (Go.RowKit.Below.refl _ _))).mono ?_; rintro e w2 ⟨p, rfl, hb2, hr2⟩; obtain ⟨pq, rfl⟩ := resS_ptr hr2; have dh2 := (hb2.block _ (show D < wr.drew.heap.size from blk_lt HR.out.2.2.1)).trans HR.out.2.2.1; have dd2 : w2.cell? ⟨D, 1 + k, none⟩ = some (.pointer none) := (blk_cell dh2 (1 + k)).trans ((List.getElem?_toArray).trans HR.out.2.2.2.2.2.2.2.2.2.2.2); have ff2 := blk_frozen dh2 (1 + k); have H2 := Aside0.mk (And.intro hb2 (And.intro hr2 dh2)); clear hb2 hr2 dh2)
        obtain ⟨W8, hW8⟩ : ∃ W8, W8 = w2.setCell ⟨D, 1 + k, none⟩ (.pointer pq) := ⟨_, rfl⟩
        rw [← hW8]
        obtain ⟨hb2, hr2, dh2⟩ := H2.out
        obtain ⟨hmid, hgl, hDr, hPT, hUT, hFR, hGr, hvk, hfk, hE2, hL2, hdc⟩ := HR.out
        have hb2' : Go.RowKit.Below wr.heap.size wr w2 := ⟨hb2.os, hb2.tape, hb2.output, hb2.size, hb2.block⟩
        have hF8 := (hFR.below hb2').setD HW.out.2.1 hDl (1 + k) (.pointer pq)
        rw [← hW8] at hF8
        have r0 : W8.cell? ⟨w.heap.size + 1, 0, none⟩ = some (.int .i64 0) := (blk_cell hF8.res 0).trans rfl
        have r1 : W8.cell? ⟨w.heap.size + 1, 1, none⟩ = some (.int .i64 0) := (blk_cell hF8.res 1).trans rfl
        have r2 : W8.cell? ⟨w.heap.size + 1, 2, none⟩ = some (.int .i64 0) := (blk_cell hF8.res 2).trans rfl
        have z0 := blk_frozen hF8.res 0
        have z1 := blk_frozen hF8.res 1
        have z2 := blk_frozen hF8.res 2
        have hzip : (valsOf.zip b.mid)[k]? = some (vals, f) := by rw [List.zip_eq_zipWith, List.getElem?_zipWith, hvk, hfk]
        have hsplit : valsOf.zip b.mid = (valsOf.zip b.mid).take k ++ (vals, f) :: (valsOf.zip b.mid).drop (k + 1) := by
          obtain ⟨hlt, he⟩ := List.getElem?_eq_some_iff.1 hzip
          have h2 := List.take_append_drop (k + 1) (valsOf.zip b.mid)
          rw [List.take_succ_eq_append_getElem hlt, he, List.append_assoc] at h2
          exact h2.symm
        cases hp : (parseP vals f).1 with
        | none =>
          have hEz : (E2 != 0) = true := bne_iff_ne.2 (by rw [hE2]; exact parseP_bad _ _ hp)
          have H8 := Aside0.mk hF8
          have HX := Aside0.mk (And.intro hmid (And.intro hp (And.intro hE2 (And.intro hL2 hsplit))))
          clear hF8 hmid hgl hDr hPT hUT hFR hGr hvk hfk hE2 hL2 hdc hb2 hr2 dh2 hb2' hW8 hzip hsplit hp dd2 ff2
          go_wp2
          obtain ⟨s1, s2, s3⟩ := H8.out.fin (by have := HW.out.1.size; exact this) (.int .i64 (2 + k)) (.int .i64 L2) (.int .i64 E2)
          refine bodyPost_ret (results_cell_row rfl _ _ (w.heap.size + 1) 30 #[.int .i64 (2 + k), .int .i64 L2, .int .i64 E2] _ _ rfl s1 Tryz.underlying30 rfl (by kernel_rfl)) rfl ?_
          rw [HPP.out]
          have hm : midS (valsOf.zip b.mid) 0 = (none, 2 + (k : Int), L2, E2) := by
            rw [HX.out.2.2.2.2, midS_snoc _ _ _ _ _ HX.out.1, midS, HX.out.2.1]
            have hlen : ((valsOf.zip b.mid).take k).length = k := by
              rw [List.length_take]
              have : (valsOf.zip b.mid).length = 5 := rfl
              omega
            rw [hlen, Nat.zero_add, ← HX.out.2.2.1, ← HX.out.2.2.2.1]
          refine ⟨2 + k, L2, E2, ?_, rfl, s2, s3, ?_⟩
          · unfold filesS; rw [HU.out]; dsimp only; rw [hm]
          · unfold filesS; rw [HU.out]; dsimp only; rw [hm]; exact fun d hd => by cases hd
        | some l =>
          have hE0 : E2 = 0 := by rw [hE2, (parseP_good _ _ hp).2.2]
          rw [hp] at hr2
          obtain ⟨g, hg, hT⟩ := hr2
          cases hg
          have hDb : w.heap.size + 2 ≤ wr.drew.heap.size := blk_lt hFR.res
          have hT8 : STab W8 (w.heap.size + 2) g l := by rw [hW8]; exact (hT.lower hDb).far (by show D < w.heap.size + 2; omega) _
          have hU8 : UTab W8 (w.heap.size + 2) gu rs := by rw [hW8]; exact (hUT.below hb2').far (by show D < w.heap.size + 2; omega) _
          have hP8 : PTabs W8 (w.heap.size + 2) gs ps := by rw [hW8]; exact (hPT.below hb2').far (by show D < w.heap.size + 2; omega) _
          have hD8 : W8.heap[D]? = some (.cells (dCells gu (gs ++ [g]) (.pointer none) (.map none)).toArray 72 (0, 0)) := by
            rw [hW8, ← hgl]; exact dset dh2 (by omega)
          have hG8 : W7.grownBy W8 (some D) := by
            have h1 := grown_then hGr hb2'
            have h2 := grown_set9 w2 ⟨D, 1 + k, none⟩ (.pointer (some ⟨g, 0, none⟩))
            rw [hW8]
            exact h1.trans h2
          have H8 := Aside0.mk (And.intro hF8 (And.intro hU8 (And.intro hP8 (And.intro hD8 (And.intro hG8 hT8)))))
          have HX := Aside0.mk (And.intro hmid (And.intro hp (And.intro hsplit (And.intro hgl hzip))))
          subst hE0
          clear hF8 hmid hgl hDr hPT hUT hFR hGr hvk hfk hE2 hL2 hdc hb2 hT dh2 hb2' hW8 hzip hsplit hp dd2 ff2 hT8 hU8 hP8 hD8 hG8
          go_wp2
          refine ⟨⟨k + 1, gs ++ [g], ps ++ [l], by omega, by go_num, ?_, by rw [List.length_append, HX.out.2.2.2.1]; rfl, H8.out.2.2.2.1, H8.out.2.2.1.snoc H8.out.2.2.2.2.2, H8.out.2.1, H8.out.1, H8.out.2.2.2.2.1⟩, by simp [intOf]; omega⟩
          rw [List.take_add_one, HX.out.2.2.2.2]
          show midS ((valsOf.zip b.mid).take k ++ [(vals, f)]) 0 = _
          rw [midS_snoc _ _ _ _ _ HX.out.1, midS, HX.out.2.1]
          rfl
      · have hke : k = 5 := by omega
        have hkz : ¬ (k : Int) < 5 := by omega
        subst hke
        have hmid5 : midS (valsOf.zip b.mid) 0 = (some ps, 0, 0, 0) := by
          rw [List.take_of_length_le (by show (valsOf.zip b.mid).length ≤ 5; exact Nat.le_refl 5)] at hmid
          exact hmid
        have b6 : wr.cell? ⟨w.heap.size, 6, none⟩ = some (.slice A6 b.con.length c6) := (blk_cell hFR.box 6).trans rfl
        have hdc : (dCells gu gs (.pointer none) (.map none))[6]? = some (.pointer none) := (dCells_get gu gs (.pointer none) (.map none) (by omega)).2.1
        have CP0 := parseC_calls A6 c6 b.con wr (Kd.C_below HC.out.2.2.2.2.2.2 hFR.b0) HLn.out.2.2.2.2.2.2 (HT.out.below hFR.b0)
        obtain ⟨E2, hE2⟩ : ∃ E2, E2 = (parseC b.con).2.1 := ⟨_, rfl⟩
        obtain ⟨L2, hL2⟩ : ∃ L2, L2 = (parseC b.con).2.2 := ⟨_, rfl⟩
        rw [← hE2, ← hL2] at CP0
        have CP := Aside0.mk CP0
        have HR := Aside0.mk (And.intro hmid5 (And.intro hgl (And.intro hDr (And.intro hPT (And.intro hUT (And.intro hFR (And.intro hGr (And.intro hE2 (And.intro hL2 hdc)))))))))
        clear CP0 hmid hmid5 hgl hDr hPT hUT hFR hGr hE2 hL2 hdc
        cases hp : (parseC b.con).1 with
        | none =>
          have HPC := Aside0.mk hp
          have hEz : (E2 != 0) = true := bne_iff_ne.2 (by rw [HR.out.2.2.2.2.2.2.2.1]; exact parseC_bad _ hp)
          clear hp
          go_wp2_with (go_at_call 59; refine CP.out.mono ?_; rintro e w2 ⟨p, rfl, hb2, hr2⟩; rw [HPC.out] at hr2; obtain rfl : p = .pointer none := hr2; have dh2 := (hb2.block _ (blk_lt HR.out.2.2.1)).trans HR.out.2.2.1; have dd2 : w2.cell? ⟨D, 6, none⟩ = some (.pointer none) := (blk_cell dh2 6).trans ((List.getElem?_toArray).trans HR.out.2.2.2.2.2.2.2.2.2); have ff2 := blk_frozen dh2 6; have hF8 := ((HR.out.2.2.2.2.2.1).below hb2).setD HW.out.2.1 hDl 6 (.pointer none); have r0 : (w2.setCell ⟨D, 6, none⟩ (.pointer none)).cell? ⟨w.heap.size + 1, 0, none⟩ = some (.int .i64 0) := (blk_cell hF8.res 0).trans rfl; have r1 : (w2.setCell ⟨D, 6, none⟩ (.pointer none)).cell? ⟨w.heap.size + 1, 1, none⟩ = some (.int .i64 0) := (blk_cell hF8.res 1).trans rfl; have r2 : (w2.setCell ⟨D, 6, none⟩ (.pointer none)).cell? ⟨w.heap.size + 1, 2, none⟩ = some (.int .i64 0) := (blk_cell hF8.res 2).trans rfl; have z0 := blk_frozen hF8.res 0; have z1 := blk_frozen hF8.res 1; have z2 := blk_frozen hF8.res 2; have H8 := Aside0.mk hF8; clear hb2 dh2 hF8)
          obtain ⟨s1, s2, s3⟩ := H8.out.fin (by have := HW.out.1.size; exact this) (.int .i64 7) (.int .i64 L2) (.int .i64 E2)
          refine bodyPost_ret (results_cell_row rfl _ _ (w.heap.size + 1) 30 #[.int .i64 7, .int .i64 L2, .int .i64 E2] _ _ rfl s1 Tryz.underlying30 rfl (by kernel_rfl)) rfl ?_
          rw [HPP.out]
          refine ⟨7, L2, E2, ?_, rfl, s2, s3, ?_⟩
          · unfold filesS; rw [HU.out]; dsimp only; rw [HR.out.1]; dsimp only; rw [HPC.out, HR.out.2.2.2.2.2.2.2.1, HR.out.2.2.2.2.2.2.2.2.1]
          · unfold filesS; rw [HU.out]; dsimp only; rw [HR.out.1]; dsimp only; rw [HPC.out]; exact fun d hd => by cases hd
        | some l =>
          have HPC := Aside0.mk hp
          have hE0 : E2 = 0 := by rw [HR.out.2.2.2.2.2.2.2.1, (parseC_good _ hp).2]
          subst hE0
          clear hp
          go_wp2_with (go_at_call 59; refine CP.out.mono ?_; rintro e w2 ⟨p, rfl, hb2, hr2⟩; rw [HPC.out] at hr2; obtain ⟨gc, rfl, hT2⟩ := hr2; have dh2 := (hb2.block _ (blk_lt HR.out.2.2.1)).trans HR.out.2.2.1; have dd2 : w2.cell? ⟨D, 6, none⟩ = some (.pointer none) := (blk_cell dh2 6).trans ((List.getElem?_toArray).trans HR.out.2.2.2.2.2.2.2.2.2); have ff2 := blk_frozen dh2 6; have hF8 := ((HR.out.2.2.2.2.2.1).below hb2).setD HW.out.2.1 hDl 6 (.pointer (some ⟨gc, 0, none⟩)); have r0 : (w2.setCell ⟨D, 6, none⟩ (.pointer (some ⟨gc, 0, none⟩))).cell? ⟨w.heap.size + 1, 0, none⟩ = some (.int .i64 0) := (blk_cell hF8.res 0).trans rfl; have r1 : (w2.setCell ⟨D, 6, none⟩ (.pointer (some ⟨gc, 0, none⟩))).cell? ⟨w.heap.size + 1, 1, none⟩ = some (.int .i64 0) := (blk_cell hF8.res 1).trans rfl; have r2 : (w2.setCell ⟨D, 6, none⟩ (.pointer (some ⟨gc, 0, none⟩))).cell? ⟨w.heap.size + 1, 2, none⟩ = some (.int .i64 0) := (blk_cell hF8.res 2).trans rfl; have z0 := blk_frozen hF8.res 0; have z1 := blk_frozen hF8.res 1; have z2 := blk_frozen hF8.res 2; have H8 := Aside0.mk (And.intro hF8 (And.intro hb2 (And.intro hT2 dh2))); clear hb2 dh2 hF8 hT2)
          obtain ⟨hF8, hb2, hT2, dh2⟩ := H8.out
          obtain ⟨hmid5, hgl, hDr, hPT, hUT, hFR, hGr, hE2, hL2, hdc⟩ := HR.out
          obtain ⟨s1, s2, s3⟩ := hF8.fin (by have := HW.out.1.size; exact this) (.int .i64 0) (.int .i64 0) (.int .i64 0)
          refine bodyPost_ret (results_cell_row rfl _ _ (w.heap.size + 1) 30 #[.int .i64 0, .int .i64 0, .int .i64 0] _ _ rfl s1 Tryz.underlying30 rfl (by kernel_rfl)) rfl ?_
          rw [HPP.out]
          have hfs : filesS b = (some ⟨rs, ps, l⟩, 0, 0, 0) := by unfold filesS; rw [HU.out]; dsimp only; rw [hmid5]; dsimp only; rw [HPC.out]
          rw [hfs]
          refine ⟨0, 0, 0, rfl, rfl, s2, s3, fun d hd => ?_⟩
          injection hd with hd
          subst hd
          have hDb : w.heap.size + 2 ≤ wr.heap.size := blk_lt hFR.res
          have hne : D ≠ w.heap.size + 1 := by omega
          obtain ⟨W8, hW8⟩ : ∃ W8, W8 = w2.setCell ⟨D, 6, none⟩ (.pointer (some ⟨gc, 0, none⟩)) := ⟨_, rfl⟩
          have hU8 : UTab W8 (w.heap.size + 2) gu rs := by rw [hW8]; exact (hUT.below hb2).far (by show D < w.heap.size + 2; omega) _
          have hP8 : PTabs W8 (w.heap.size + 2) gs ps := by rw [hW8]; exact (hPT.below hb2).far (by show D < w.heap.size + 2; omega) _
          have hT8 : CTab W8 (w.heap.size + 2) gc l := by rw [hW8]; exact (hT2.lower hDb).far (by show D < w.heap.size + 2; omega) _
          have hD8 : W8.heap[D]? = some (.cells (dCells gu gs (ptr gc) (.map none)).toArray 72 (0, 0)) := by
            rw [hW8, blk_set dh2 6 (.pointer (some ⟨gc, 0, none⟩))]
            congr 2
            obtain ⟨a1, a2, a3, a4, a5, rfl⟩ : ∃ a b c d e, gs = [a, b, c, d, e] := by
              rcases gs with _ | ⟨a, _ | ⟨b, _ | ⟨c, _ | ⟨d, _ | ⟨e, _ | ⟨f, r⟩⟩⟩⟩⟩⟩
              all_goals first
                | (simp at hgl; done)
                | exact ⟨_, _, _, _, _, rfl⟩
            rfl
          rw [← hW8]
          obtain ⟨s1', s2', s3'⟩ := three_set (.int .i64 0) (.int .i64 0) (.int .i64 0) (hW8 ▸ hF8.res)
          refine ⟨gu, gs, gc, (s3' D hne).trans hD8, ?_, ?_, hgl, ?_⟩
          · exact (((hU8.far (by show w.heap.size + 1 < w.heap.size + 2; omega) _).far (by show w.heap.size + 1 < w.heap.size + 2; omega) _).far (by show w.heap.size + 1 < w.heap.size + 2; omega) _).lower (by omega)
          · have h := ((hP8.far (p := ⟨w.heap.size + 1, 0, none⟩) (by show w.heap.size + 1 < w.heap.size + 2; omega) (.int .i64 0)).far (p := ⟨w.heap.size + 1, 1, none⟩) (by show w.heap.size + 1 < w.heap.size + 2; omega) (.int .i64 0)).far (p := ⟨w.heap.size + 1, 2, none⟩) (by show w.heap.size + 1 < w.heap.size + 2; omega) (.int .i64 0)
            exact ⟨h.1, fun j g l h1 h2 => (h.2 j g l h1 h2).lower (by omega)⟩
          · exact (((hT8.far (by show w.heap.size + 1 < w.heap.size + 2; omega) _).far (by show w.heap.size + 1 < w.heap.size + 2; omega) _).far (by show w.heap.size + 1 < w.heap.size + 2; omega) _).lower (by omega)
end Go.Proofs.YtebgebgkieglhaaGreatDoor.FieldW
end
section
/- data: what Load gives, in plain words. -/
namespace Go.Proofs.YtebgebgkieglhaaGreatDoor.FieldW
open Go.RowKit Go.Shelf Go.Lib Go.Proofs Go.Proofs.YtebgebgkieglhaaGreatDoorW.PrintWords Go.Proofs.YtebgebgkieglhaaGreatDoorW.PrintLast Go.Proofs.YtebgebgkieglhaaGreatDoorW.PrintMore Go.Proofs.YtebgebgkieglhaaGreatDoor.PRef
set_option linter.unusedVariables false
set_option linter.unusedSimpArgs false
open Go


/-- A row that has a Hangul code point, and more. -/
def korB (r : URow) : Bool := (!r.dec.isEmpty || r.ccc != 0) && korS r.first r.last
/-- What Load answers. -/
def LoadR (b : Bun) (r : Option (DatS × List ((Int × Int) × Int))) (F L E : Int) : Prop := match (filesS b).1 with
  | none => r = none ∧ (filesS b).2 = (F, L, E)
  | some d => ((d.rows.any korB = true ∧ r = none ∧ F = 1 ∧ L = 0 ∧ E = 16) ∨ (d.rows.any korB = false ∧
      ((Cyc (decR d.rows) ∧ r = none ∧ F = 1 ∧ L = 0 ∧ E = 17) ∨ (¬ Cyc (decR d.rows) ∧
        ((longS d.rows = true ∧ r = none ∧ F = 1 ∧ L = 0 ∧ E = 36) ∨ (longS d.rows = false ∧
          ((pairF d.rows (d.props.getD 0 []) d.rows [] = none ∧ r = none ∧ F = 1 ∧ L = 0 ∧ E = 15) ∨
           (∃ l, pairF d.rows (d.props.getD 0 []) d.rows [] = some l ∧ r = some (d, l) ∧ F = 0 ∧ L = 0 ∧ E = 0))))))))
def Bun.small (b : Bun) : Prop := b.uni.length ≤ 100000 ∧ b.exc.length ≤ 100000 ∧ b.ign.length ≤ 100000 ∧ b.idn.length ≤ 100000 ∧ b.scr.length ≤ 100000 ∧ b.joi.length ≤ 100000 ∧ b.con.length ≤ 100000
theorem midS_good : ∀ (fs : List (List ByteArray × List UInt8)) (k : Nat) (ps : List (List USpan)) (x : Int × Int × Int), midS fs k = (some ps, x) → (∀ q ∈ fs, q.2.length ≤ 100000) → x = (0, 0, 0) ∧ ps.length = fs.length ∧ ∀ l ∈ ps, RisingS l ∧ l.length ≤ 100001
  | [], k, ps, x, h, _ => by
    injection h with h1 h2
    injection h1 with h1
    subst h1 h2
    exact ⟨rfl, rfl, fun l h => by cases h⟩
  | (vals, f) :: r, k, ps, x, h, hl => by
    rw [midS] at h
    cases hp : (parseP vals f).1 with
    | none => rw [hp] at h; cases h
    | some l =>
      rw [hp] at h
      dsimp only at h
      cases hm : midS r (k + 1) with
      | mk o y =>
        rw [hm] at h
        cases o with
        | none => cases h
        | some ls =>
          injection h with h1 h2
          injection h1 with h1
          subst h1 h2
          obtain ⟨i1, i2, i3⟩ := midS_good r (k + 1) ls y hm (fun q hq => hl q (List.mem_cons_of_mem _ hq))
          refine ⟨i1, by simp [i2], fun l' hl' => ?_⟩
          rcases List.mem_cons.1 hl' with rfl | hl'
          · have := parseP_good vals f hp
            have h5 := hl (vals, f) (by simp)
            exact ⟨this.1, by have := this.2.1; dsimp only at h5; omega⟩
          · exact i3 l' hl'
theorem midS_bad : ∀ (fs : List (List ByteArray × List UInt8)) (k : Nat) (x : Int × Int × Int), midS fs k = (none, x) → x.2.2 ≠ 0 ∧ 2 + (k : Int) ≤ x.1 ∧ x.1 < 2 + k + fs.length
  | [], k, x, h => by cases h
  | (vals, f) :: r, k, x, h => by
    rw [midS] at h
    cases hp : (parseP vals f).1 with
    | none =>
      rw [hp] at h
      injection h with _ h2
      subst h2
      refine ⟨parseP_bad vals f hp, ?_, ?_⟩
      · show 2 + (k : Int) ≤ 2 + k; omega
      · show 2 + (k : Int) < _; rw [List.length_cons]; omega
    | some l =>
      rw [hp] at h
      dsimp only at h
      cases hm : midS r (k + 1) with
      | mk o y =>
        rw [hm] at h
        cases o with
        | some ls => cases h
        | none =>
          injection h with _ h2
          subst h2
          have := midS_bad r (k + 1) y hm
          refine ⟨this.1, by have := this.2.1; omega, by have := this.2.2; rw [List.length_cons]; omega⟩
/-- What the files give when they are right. -/
theorem filesS_good {b : Bun} (hb : b.small) {d : DatS} (h : (filesS b).1 = some d) : (filesS b).2 = (0, 0, 0) ∧ RowsOk d.rows ∧ d.props.length = 5 ∧ (∀ l ∈ d.props, RisingS l ∧ l.length ≤ 100001) ∧ d.con.length ≤ 100001 := by
  unfold filesS at h ⊢
  cases hu : (parseU b.uni).1 with
  | none => rw [hu] at h; cases h
  | some rs =>
    rw [hu] at h
    dsimp only at h ⊢
    cases hm : midS (valsOf.zip b.mid) 0 with
    | mk o x =>
      rw [hm] at h
      cases o with
      | none => cases h
      | some ps =>
        dsimp only at h ⊢
        cases hc : (parseC b.con).1 with
        | none => rw [hc] at h; cases h
        | some l =>
          rw [hc] at h
          injection h with h
          subst h
          obtain ⟨g1, g2, g3⟩ := parseU_good b.uni hb.1 hu
          obtain ⟨m1, m2, m3⟩ := midS_good _ _ _ _ hm (fun q hq => by
            have h2 := List.of_mem_zip hq
            have h3 := h2.2
            unfold Bun.mid at h3
            obtain ⟨h10, h11, h12, h13, h14, h15, h16⟩ := hb
            simp at h3
            rcases h3 with h3 | h3 | h3 | h3 | h3 <;> (rw [h3]; assumption))
          exact ⟨rfl, ⟨g1.1, g1.2, parseU_one b.uni hb.1 hu, by have := hb.1; show rs.length ≤ 100001; omega⟩, m2, m3, by have := (parseC_good b.con hc).1; have := hb.2.2.2.2.2.2; show l.length ≤ 100001; omega⟩
/-- .. and when they are not. -/
theorem filesS_bad {b : Bun} (h : (filesS b).1 = none) : (filesS b).2.2.2 ≠ 0 ∧ 1 ≤ (filesS b).2.1 ∧ (filesS b).2.1 ≤ 7 := by
  unfold filesS at h ⊢
  cases hu : (parseU b.uni).1 with
  | none =>
    rw [hu] at h
    exact ⟨parseU_bad b.uni hu, (by show (1 : Int) ≤ 1; decide), (by show (1 : Int) ≤ 7; decide)⟩
  | some rs =>
    rw [hu] at h
    dsimp only at h ⊢
    cases hm : midS (valsOf.zip b.mid) 0 with
    | mk o x =>
      rw [hm] at h
      cases o with
      | none =>
        have := midS_bad _ _ _ hm
        dsimp only
        refine ⟨this.1, by have := this.2.1; omega, ?_⟩
        have h5 : (valsOf.zip b.mid).length = 5 := rfl
        have := this.2.2
        rw [h5] at this
        omega
      | some ps =>
        dsimp only at h ⊢
        cases hc : (parseC b.con).1 with
        | none => exact ⟨parseC_bad b.con hc, (by show (1 : Int) ≤ 7; decide), (by show (7 : Int) ≤ 7; decide)⟩
        | some l => rw [hc] at h; cases h
theorem Topo_noCyc {rs : List URow} (hG : RowsOk rs) {dl : List Int} (h : DoneOk rs dl) (hall : ∀ r ∈ rs, r.dec ≠ [] → r.first ∈ dl) : ¬ Cyc (decR rs) := by
  rintro ⟨c, hc⟩
  obtain ⟨x, hx, _⟩ := hc.first
  have hne : decR rs c ≠ [] := fun e => by rw [e] at hx; cases hx
  obtain ⟨r, hr, he, hf, hd⟩ := decR_some hG.one hne
  have := hall r hr hd
  rw [hf] at this
  exact h.topo.noCyc c this hc
end Go.Proofs.YtebgebgkieglhaaGreatDoor.FieldW
end
section
/- DataMakes: the plain law. -/
namespace Go.Proofs.YtebgebgkieglhaaGreatDoor.FieldW
open Go.RowKit Go.Shelf Go.Lib Go.Proofs Go.Proofs.YtebgebgkieglhaaGreatDoorW.PrintWords Go.Proofs.YtebgebgkieglhaaGreatDoorW.PrintLast Go.Proofs.YtebgebgkieglhaaGreatDoorW.PrintMore Go.Proofs.YtebgebgkieglhaaGreatDoor.PRef
set_option linter.unusedVariables false
set_option linter.unusedSimpArgs false


/-- What pairs noted. -/
theorem pairF_spec (rs : List URow) (p0 : List USpan) : ∀ (t : List URow) (l0 l : List ((Int × Int) × Int)), pairF rs p0 t l0 = some l →
    (∀ p c, lookP l0 p = some c → lookP l p = some c) ∧ (∀ r ∈ t, skipR rs p0 r = false → lookP l (r.dec.getD 0 0, r.dec.getD 1 0) = some r.first) ∧
    (∀ p c, lookP l p = some c → lookP l0 p = some c ∨ ∃ r ∈ t, skipR rs p0 r = false ∧ (r.dec.getD 0 0, r.dec.getD 1 0) = p ∧ r.first = c)
  | [], l0, l, h => by
    injection h with h
    subst h
    exact ⟨fun _ _ h => h, fun r hr => (by cases hr), fun _ _ h => .inl h⟩
  | r :: t, l0, l, h => by
    rw [pairF] at h
    split at h
    · rename_i hs
      obtain ⟨h1, h2, h3⟩ := pairF_spec rs p0 t l0 l h
      refine ⟨h1, fun r' hr' hk => ?_, fun p c hp => ?_⟩
      · rcases List.mem_cons.1 hr' with rfl | hr'
        · rw [hs] at hk; cases hk
        · exact h2 r' hr' hk
      · rcases h3 p c hp with h4 | ⟨r', h5, h6⟩
        · exact .inl h4
        · exact .inr ⟨r', List.mem_cons_of_mem _ h5, h6⟩
    · rename_i hs
      split at h
      · cases h
      · rename_i hk
        have hn : lookP l0 (r.dec.getD 0 0, r.dec.getD 1 0) = none := by
          cases hq : lookP l0 (r.dec.getD 0 0, r.dec.getD 1 0) with
          | none => rfl
          | some x => rw [hq] at hk; exact absurd rfl hk
        have hsf : skipR rs p0 r = false := by simpa using hs
        obtain ⟨h1, h2, h3⟩ := pairF_spec rs p0 t _ l h
        have app : ∀ p, lookP (l0 ++ [((r.dec.getD 0 0, r.dec.getD 1 0), r.first)]) p = (lookP l0 p).or (if (r.dec.getD 0 0, r.dec.getD 1 0) = p then some r.first else none) := by
          intro p
          unfold lookP
          rw [List.find?_append]
          cases hq : l0.find? (fun x => x.1 == p) with
          | some y => rfl
          | none =>
            by_cases e : (r.dec.getD 0 0, r.dec.getD 1 0) = p
            · rw [if_pos e]; subst e; simp
            · rw [if_neg e]
              have : [((r.dec.getD 0 0, r.dec.getD 1 0), r.first)].find? (fun x => x.1 == p) = none := by
                simp only [List.find?_cons]
                have : ((r.dec.getD 0 0, r.dec.getD 1 0) == p) = false := by simpa using e
                rw [this]
                rfl
              rw [this]
              rfl
        refine ⟨fun p c hp => h1 p c (by rw [app, hp]; rfl), fun r' hr' hk' => ?_, fun p c hp => ?_⟩
        · rcases List.mem_cons.1 hr' with rfl | hr'
          · exact h1 _ _ (by rw [app, hn, if_pos rfl]; rfl)
          · exact h2 r' hr' hk'
        · rcases h3 p c hp with h4 | ⟨r', h5, h6⟩
          · rw [app] at h4
            cases hq : lookP l0 p with
            | some y => rw [hq] at h4; exact .inl h4
            | none =>
              rw [hq] at h4
              by_cases e : (r.dec.getD 0 0, r.dec.getD 1 0) = p
              · rw [if_pos e] at h4
                injection h4 with h4
                exact .inr ⟨r, List.mem_cons_self, hsf, e, h4⟩
              · rw [if_neg e] at h4; cases h4
          · exact .inr ⟨r', List.mem_cons_of_mem _ h5, h6⟩
/-- Two rows of one first code point are one. -/
theorem row_one {rs : List URow} (hS : RisingR rs) {r r' : URow} (h : r ∈ rs) (h' : r' ∈ rs) (he : r.first = r'.first) : r = r' := by
  have a := rowAt_first hS h (Int.le_refl _) (hS.2 r h)
  have b := rowAt_first hS h' (Int.le_refl _) (hS.2 r' h')
  rw [← a, ← b, he]
theorem skip_of {rs : List URow} {p0 : List USpan} {r : URow} {a b : Int} (hd : r.dec = [a, b]) : skipR rs p0 r = false ↔ (r.ccc = 0 ∧ exS p0 r.first = false ∧ (rowAt rs a).ccc = 0) := by
  unfold skipR
  rw [hd]
  simp
  constructor
  · rintro ⟨⟨h1, h2⟩, h3⟩; exact ⟨h1, h2, h3⟩
  · rintro ⟨h1, h2, h3⟩; exact ⟨⟨h1, h2⟩, h3⟩
/-- The first law: what a row with a pair is told by Makes. -/
theorem makes_row {rs : List URow} {p0 : List USpan} {l : List ((Int × Int) × Int)} (hS : RisingR rs) (h : pairF rs p0 rs [] = some l) {r : URow} (hr : r ∈ rs) {a b : Int} (hd : r.dec = [a, b]) :
    (lookP l (a, b) = none ∧ ¬ (r.ccc = 0 ∧ exS p0 r.first = false ∧ (rowAt rs a).ccc = 0)) ∨ (∃ c, lookP l (a, b) = some c ∧ (c = r.first → (r.ccc = 0 ∧ exS p0 r.first = false ∧ (rowAt rs a).ccc = 0))) := by
  obtain ⟨h1, h2, h3⟩ := pairF_spec rs p0 rs [] l h
  have e : (r.dec.getD 0 0, r.dec.getD 1 0) = (a, b) := by rw [hd]; rfl
  cases hq : lookP l (a, b) with
  | none =>
    refine .inl ⟨rfl, fun hk => ?_⟩
    have := h2 r hr ((skip_of hd).2 hk)
    rw [e, hq] at this
    cases this
  | some c =>
    refine .inr ⟨c, rfl, fun hc => ?_⟩
    rcases h3 _ _ hq with h4 | ⟨r', h5, h6, h7, h8⟩
    · cases h4
    · have : r' = r := row_one hS h5 hr (by rw [h8, hc])
      subst this
      exact (skip_of hd).1 h6
/-- The second: what a pair makes has that pair as its decomposition. -/
theorem makes_dec {rs : List URow} {p0 : List USpan} {l : List ((Int × Int) × Int)} (hS : RisingR rs) (h : pairF rs p0 rs [] = some l) {x y c : Int} (hq : lookP l (x, y) = some c) : (rowAt rs c).dec = [x, y] := by
  obtain ⟨h1, h2, h3⟩ := pairF_spec rs p0 rs [] l h
  rcases h3 _ _ hq with h4 | ⟨r, h5, h6, h7, h8⟩
  · cases h4
  · have hl : r.dec.length = 2 := by
      unfold skipR at h6
      simp at h6
      exact h6.1.1.1
    rcases hd : r.dec with _ | ⟨a, _ | ⟨b, _ | ⟨e, t⟩⟩⟩
    all_goals first
      | (rw [hd] at hl; simp at hl; done)
      | skip
    rw [hd] at h7
    injection h7 with e1 e2
    have : rowAt rs c = r := rowAt_first hS h5 (by omega) (by have := hS.2 r h5; omega)
    rw [this, hd]
    have e1' : a = x := e1
    have e2' : b = y := e2
    rw [e1', e2']
/-- No row of note has a Hangul code point. -/
theorem kor_row {rs : List URow} (hS : RisingR rs) (h : rs.any korB = false) {r : URow} (hr : r ∈ rs) (hk : r.dec ≠ [] ∨ r.ccc ≠ 0) : ∀ c, (c = r.first ∨ c = r.last) → ¬ ((4352 ≤ c ∧ c ≤ 4370) ∨ (4449 ≤ c ∧ c ≤ 4469) ∨ (4520 ≤ c ∧ c ≤ 4546) ∨ (44032 ≤ c ∧ c ≤ 55203)) := by
  have h1 := (List.any_eq_false.1 h) r hr
  have hle := hS.2 r hr
  intro c hc hq
  apply h1
  unfold korB korS hangP
  have h2 : (!r.dec.isEmpty || r.ccc != 0) = true := by
    rcases hk with h | h
    · simp [h]
    · simp [h]
  rw [h2]
  simp
  omega
end Go.Proofs.YtebgebgkieglhaaGreatDoor.FieldW
end
section
/- data: Load is walked. -/
namespace Go.Proofs.YtebgebgkieglhaaGreatDoor.FieldW
open Go.RowKit Go.Shelf Go.Lib Go.Proofs Go.Proofs.YtebgebgkieglhaaGreatDoorW.PrintWords Go.Proofs.YtebgebgkieglhaaGreatDoorW.PrintLast Go.Proofs.YtebgebgkieglhaaGreatDoorW.PrintMore Go.Proofs.YtebgebgkieglhaaGreatDoor.PRef
set_option linter.unusedVariables false
set_option linter.unusedSimpArgs false
open Go Go.Maps
attribute [local go_sem] Oper.semAt_some


/-- The data that Load gives, in memory. -/
def resL (base : Nat) (r : Option (DatS × List ((Int × Int) × Int))) (p : Value) (w : World) : Prop := match r with
  | none => p = .pointer none
  | some (d, l) => ∃ D Bm, p = .pointer (some ⟨D, 0, none⟩) ∧ base ≤ D ∧ base ≤ Bm ∧ DatM w base D (.map (some Bm)) d ∧ PairIs w Bm l
theorem results_load {fn : Func} (h : fn.results = #[.cell 2 27, .cell 3 30]) (tmps : Array Value) (w : World) (a : Addr) (g : Nat) (p : Option Addr) (x y z : Value) (ha : tmps.getD 2 undef = .pointer (some a)) (hg : tmps.getD 3 undef = .pointer (some ⟨g, 0, none⟩)) (hp : w.cell? a = some (.pointer p)) (hh : w.heap[g]? = some (.cells #[x, y, z] 30 (0, 0))) :
    (results fn tmps).run Tryz.prog w = .ok (.tuple #[.pointer p, .agg #[x, y, z]]) w := by
  have ha' : tmps[2]?.getD undef = .pointer (some a) := by simpa using ha
  have hg' : tmps[3]?.getD undef = .pointer (some ⟨g, 0, none⟩) := by simpa using hg
  have hu := Tryz.underlying27
  have hl := run_loadVar_row (P := Tryz.prog) w g 30 30 #[x, y, z] (0, 0) _ hh Tryz.underlying30 rfl (by kernel_rfl)
  have k0 : w.cell? ⟨g, 0, none⟩ = some x := (blk_cell hh 0).trans rfl
  have k1 : w.cell? ⟨g, 1, none⟩ = some y := (blk_cell hh 1).trans rfl
  have k2 : w.cell? ⟨g, 2, none⟩ = some z := (blk_cell hh 2).trans rfl
  simp [results, h, ha', hg', asAddr]
  go_simp
def badI (rs : List URow) (Wr : World) (pre : List URow) (W : World) : Prop := pre.any korB = false ∧ Go.RowKit.Below Wr.heap.size Wr W
theorem badI_stay (rs : List URow) (Wr : World) : StayI Wr.heap.size (badI rs Wr) := fun pre A B ⟨h1, h2⟩ hb => ⟨h1, h2.trans hb⟩
def badX (w : World) (c : Code) (pre : List URow) (W : World) : Prop :=
  c = .ret ∧ pre.any korB = true ∧ W.heap[w.heap.size + 1]? = some (.cells #[.pointer none] 27 (0, 0)) ∧ W.heap[w.heap.size + 2]? = some (.cells #[.int .i64 1, .int .i64 0, .int .i64 16] 30 (0, 0)) ∧ Go.RowKit.Below w.heap.size w W
theorem badX_stay (w : World) {n : Nat} (hn : w.heap.size + 3 ≤ n) (c : Code) : StayI n (badX w c) := fun pre A B ⟨h1, h2, h3, h4, h5⟩ hb => ⟨h1, h2, (hb.block _ (by omega)).trans h3, (hb.block _ (by omega)).trans h4, h5.trans (hb.mono (by omega))⟩
theorem DatM.below {w w' : World} {base D : Nat} {m : Value} {d : DatS} (h : DatM w base D m d) (hb : Go.RowKit.Below w.heap.size w w') : DatM w' base D m d := by
  obtain ⟨gu, gs, gc, h1, h2, h3, h4, h5⟩ := h
  exact ⟨gu, gs, gc, (hb.block _ (blk_lt h1)).trans h1, h2.below hb, h3.below hb, h4, h5.below hb⟩
theorem UTab.turn {A B : World} {base X g : Nat} {o : Option (List Deferred)} {l : List URow} (h : UTab A base g l) (hX : A.heap[X]? = some (.deferred o)) (hk : ∀ k, base ≤ k → k < A.heap.size → k ≠ X → B.heap[k]? = A.heap[k]?) : UTab B base g l := by
  obtain ⟨v, h1, h2, h3⟩ := h
  refine ⟨v, (hk g h2 (blk_lt h1) (fun e => by rw [e, hX] at h1; cases h1)).trans h1, h2, Kd.R_mono (Kd.R_step (Kd.R_bound h3) (fun k hk' hlt => hk k hk'.2.1 hlt (fun e => ?_))) (fun k hk' => hk'.1)⟩
  obtain ⟨q, _, cells, hc⟩ := hk'.2.2.2
  rw [e, hX] at hc
  cases hc
theorem STab.turn {A B : World} {base X g : Nat} {o : Option (List Deferred)} {l : List USpan} (h : STab A base g l) (hX : A.heap[X]? = some (.deferred o)) (hk : ∀ k, base ≤ k → k < A.heap.size → k ≠ X → B.heap[k]? = A.heap[k]?) : STab B base g l := by
  obtain ⟨v, h1, h2, h3⟩ := h
  refine ⟨v, (hk g h2 (blk_lt h1) (fun e => by rw [e, hX] at h1; cases h1)).trans h1, h2, Kd.R_mono (Kd.R_step (Kd.R_bound h3) (fun k hk' hlt => hk k hk'.2.1 hlt (fun e => ?_))) (fun k hk' => hk'.1)⟩
  obtain ⟨q, _, cells, hc⟩ := hk'.2.2.2
  rw [e, hX] at hc
  cases hc
theorem CTab.turn {A B : World} {base X g : Nat} {o : Option (List Deferred)} {l : List (Int × List Int)} (h : CTab A base g l) (hX : A.heap[X]? = some (.deferred o)) (hk : ∀ k, base ≤ k → k < A.heap.size → k ≠ X → B.heap[k]? = A.heap[k]?) : CTab B base g l := by
  obtain ⟨Bm, F, h1, h2, h3, h4, h5, h6⟩ := h
  obtain ⟨es, c, hm⟩ := MapIs.is_map h5
  refine ⟨Bm, F, (hk g h2 (blk_lt h1) (fun e => by rw [e, hX] at h1; cases h1)).trans h1, h2, h3, h4, h5.block (hk Bm h3 h5.lt (fun e => by rw [e, hX] at hm; cases hm)), h6.turn (fun v q hv => Kd.R_mono (Kd.R_step (Kd.R_bound hv) (fun k hk' hlt => hk k hk'.2.1 hlt (fun e => ?_))) (fun k hk' => hk'.1))⟩
  obtain ⟨q, _, cells, hc⟩ := hk'.2.2.2
  rw [e, hX] at hc
  cases hc
theorem end4 {w V : World} (hb : Go.RowKit.Below w.heap.size w V) {q x y z : Value} (r1 : V.heap[w.heap.size + 1]? = some (.cells #[q] 27 (0, 0))) (r2 : V.heap[w.heap.size + 2]? = some (.cells #[x, y, z] 30 (0, 0))) (p F L E : Value) :
    ((((V.setCell ⟨w.heap.size + 1, 0, none⟩ p).setCell ⟨w.heap.size + 2, 0, none⟩ F).setCell ⟨w.heap.size + 2, 1, none⟩ L).setCell ⟨w.heap.size + 2, 2, none⟩ E).heap[w.heap.size + 1]? = some (.cells #[p] 27 (0, 0)) ∧
    ((((V.setCell ⟨w.heap.size + 1, 0, none⟩ p).setCell ⟨w.heap.size + 2, 0, none⟩ F).setCell ⟨w.heap.size + 2, 1, none⟩ L).setCell ⟨w.heap.size + 2, 2, none⟩ E).heap[w.heap.size + 2]? = some (.cells #[F, L, E] 30 (0, 0)) ∧
    Go.RowKit.Below w.heap.size w ((((V.setCell ⟨w.heap.size + 1, 0, none⟩ p).setCell ⟨w.heap.size + 2, 0, none⟩ F).setCell ⟨w.heap.size + 2, 1, none⟩ L).setCell ⟨w.heap.size + 2, 2, none⟩ E) ∧
    (∀ k, k ≠ w.heap.size + 1 → k ≠ w.heap.size + 2 → ((((V.setCell ⟨w.heap.size + 1, 0, none⟩ p).setCell ⟨w.heap.size + 2, 0, none⟩ F).setCell ⟨w.heap.size + 2, 1, none⟩ L).setCell ⟨w.heap.size + 2, 2, none⟩ E).heap[k]? = V.heap[k]?) := by
  have f1 : ∀ k, k ≠ w.heap.size + 1 → (V.setCell ⟨w.heap.size + 1, 0, none⟩ p).heap[k]? = V.heap[k]? := fun k hk => Go.RowKit.Below.heap_setCell V ⟨w.heap.size + 1, 0, none⟩ p k hk
  obtain ⟨s1, s2, s3⟩ := three_set F L E ((f1 _ (by omega)).trans r2)
  refine ⟨(s3 _ (by omega)).trans (blk_set r1 0 p), s1, s2 _ (by omega) _ (hb.setCell (p := ⟨w.heap.size + 1, 0, none⟩) (by show w.heap.size ≤ w.heap.size + 1; omega) _), fun k h1 h2 => (s3 k h2).trans (f1 k h1)⟩
set_option maxHeartbeats 8000000 in
set_option maxRecDepth 100000 in
theorem load_calls (w : World) (v0 v1 v2 v3 v4 v5 v6 : Value) (b : Bun) (h0 : FileA w v0 b.uni) (h1 : FileA w v1 b.exc) (h2 : FileA w v2 b.ign) (h3 : FileA w v3 b.idn) (h4 : FileA w v4 b.scr) (h5 : FileA w v5 b.joi) (h6 : FileA w v6 b.con) (hb : b.small) (T : Tabs w) :
    Calls Tryz.prog 9 #[.agg #[v0, v1, v2, v3, v4, v5, v6]] w fun e w' => ∃ (p : Value) (F L E : Int) (r : Option (DatS × List ((Int × Int) × Int))), e = .returned (.tuple #[p, .agg #[.int .i64 F, .int .i64 L, .int .i64 E]]) ∧ LoadR b r F L E ∧ Go.RowKit.Below w.heap.size w w' ∧ resL w.heap.size r p w' := by
  obtain ⟨PP, hPP⟩ : ∃ PP : Ending → World → Prop, PP = fun e w' => ∃ (p : Value) (F L E : Int) (r : Option (DatS × List ((Int × Int) × Int))), e = .returned (.tuple #[p, .agg #[.int .i64 F, .int .i64 L, .int .i64 E]]) ∧ LoadR b r F L E ∧ Go.RowKit.Below w.heap.size w w' ∧ resL w.heap.size r p w' := ⟨_, rfl⟩
  rw [← hPP]
  have HPP := Aside0.mk hPP
  have FC := fun (W : World) (D : Nat) (hW : Go.RowKit.Below w.heap.size w W) (hD0 : w.heap.size ≤ D) (hD : W.heap[D]? = some (.cells #[.pointer none, .pointer none, .pointer none, .pointer none, .pointer none, .pointer none, .pointer none, .map none] 72 (0, 0))) => files_calls w W D v0 v1 v2 v3 v4 v5 v6 b h0 h1 h2 h3 h4 h5 h6 hW hD0 hD T
  have HFC := Aside0.mk FC
  have HT := Aside0.mk (And.intro T hb)
  obtain ⟨A0, c0, rfl, -, -⟩ := h0
  obtain ⟨A1, c1, rfl, -, -⟩ := h1
  obtain ⟨A2, c2, rfl, -, -⟩ := h2
  obtain ⟨A3, c3, rfl, -, -⟩ := h3
  obtain ⟨A4, c4, rfl, -, -⟩ := h4
  obtain ⟨A5, c5, rfl, -, -⟩ := h5
  obtain ⟨A6, c6, rfl, -, -⟩ := h6
  clear FC hPP T hb
  refine (callsIn_wide (n := 4)).1 ?_
  refine callsIn_of_wp_marks Tryz.func9 rfl trivial ?_ rfl
  simp only [Tryz.ntmps9, List.size_toArray, List.length_cons, List.length_nil, Nat.reduceAdd, Nat.reduceSub, Array.replicate_succ, Array.replicate_zero, List.push_toArray, List.append_toArray, List.nil_append, List.cons_append]
  refine wpIn_wide.2 ?_
  go_wp2_with (go_at_call 35; refine Aside0.out ?_)
  refine Aside0.mk ?_
  simp only [Nat.add_assoc, Nat.reduceAdd]
  obtain ⟨W4, hW4⟩ : ∃ W4, W4 = ((((w.alloc (.cells #[.slice A0 b.uni.length c0, .slice A1 b.exc.length c1, .slice A2 b.ign.length c2, .slice A3 b.idn.length c3, .slice A4 b.scr.length c4, .slice A5 b.joi.length c5, .slice A6 b.con.length c6] 24)).alloc (.cells #[.pointer none] 27)).alloc (.cells #[.int .i64 0, .int .i64 0, .int .i64 0] 30)).alloc (.cells #[.pointer none, .pointer none, .pointer none, .pointer none, .pointer none, .pointer none, .pointer none, .map none] 72)) := ⟨_, rfl⟩
  rw [← hW4]
  have up : ∀ (W : World) (o : Obj) (k : Nat) (u : Obj), W.heap[k]? = some u → (W.alloc o).heap[k]? = some u := fun W o k u h => (Go.RowKit.Below.heap_alloc _ _ _ (Array.getElem?_eq_some_iff.1 h).1).trans h
  have nw : ∀ (W : World) (o : Obj) (k : Nat), k = W.heap.size → (W.alloc o).heap[k]? = some (match o with | .cells cs ty sh => .cells cs ty sh | o => o) := fun W o k h => by subst h; rw [heap_alloc_new]; cases o <;> rfl
  have q1 : W4.heap[w.heap.size + 1]? = some (.cells #[.pointer none] 27 (0, 0)) := by rw [hW4]; exact up _ _ _ _ (up _ _ _ _ (nw _ _ _ (by simp)))
  have q2 : W4.heap[w.heap.size + 2]? = some (.cells #[.int .i64 0, .int .i64 0, .int .i64 0] 30 (0, 0)) := by rw [hW4]; exact up _ _ _ _ (nw _ _ _ (by simp))
  have q3 : W4.heap[w.heap.size + 3]? = some (.cells #[.pointer none, .pointer none, .pointer none, .pointer none, .pointer none, .pointer none, .pointer none, .map none] 72 (0, 0)) := by rw [hW4]; exact nw _ _ _ (by simp)
  have hb4 : Go.RowKit.Below w.heap.size w W4 := by rw [hW4]; exact below_alloc (below_alloc (below_alloc (below_alloc (Go.RowKit.Below.refl _ _) _) _) _) _
  have hs4 : W4.heap.size = w.heap.size + 4 := by rw [hW4]; simp
  refine (HFC.out W4 (w.heap.size + 3) hb4 (by omega) q3).mono ?_
  rintro e W5 ⟨F, L, E, hFLE, rfl, hb5, hg5, hDM⟩
  have p1 := (hg5.block _ (blk_lt q1) (fun e => by injection e with e; omega)).trans q1
  have p2 := (hg5.block _ (blk_lt q2) (fun e => by injection e with e; omega)).trans q2
  have hs5 := hg5.size
  clear hW4 up nw q1 q2 q3 hb4 hg5 HFC
  cases hf : (filesS b).1 with
  | none =>
    have hbad := filesS_bad hf
    rw [hFLE] at hbad
    have hEz : (E == 0) = false := beq_eq_false_iff_ne.2 hbad.1
    have hE0 : ¬ E = 0 := hbad.1
    have y1 : ∀ o, (W5.alloc o).cell? ⟨w.heap.size + 1, 0, none⟩ = some (.pointer none) := fun o => cell_grows9 ((blk_cell p1 0).trans rfl)
    have y20 : ∀ o, (W5.alloc o).cell? ⟨w.heap.size + 2, 0, none⟩ = some (.int .i64 0) := fun o => cell_grows9 ((blk_cell p2 0).trans rfl)
    have y21 : ∀ o, (W5.alloc o).cell? ⟨w.heap.size + 2, 1, none⟩ = some (.int .i64 0) := fun o => cell_grows9 ((blk_cell p2 1).trans rfl)
    have y22 : ∀ o, (W5.alloc o).cell? ⟨w.heap.size + 2, 2, none⟩ = some (.int .i64 0) := fun o => cell_grows9 ((blk_cell p2 2).trans rfl)
    have H5 := Aside0.mk (And.intro hf (And.intro hFLE (And.intro hb5 (And.intro p1 (And.intro p2 hbad)))))
    clear hf hFLE hb5 hDM p1 p2 hbad
    go_wp2
    obtain ⟨W6, hW6⟩ : ∃ W6, W6 = W5.alloc (.cells #[.int .i64 F, .int .i64 L, .int .i64 E] 30) := ⟨_, rfl⟩
    have hx6 : W6.heap[W5.heap.size]? = some (.cells #[.int .i64 F, .int .i64 L, .int .i64 E] 30 (0, 0)) := by rw [hW6]; exact heap_alloc_new _ _
    have h56 : Go.RowKit.Below W5.heap.size W5 W6 := by rw [hW6]; exact below_alloc (Go.RowKit.Below.refl _ _) _
    rw [← hW6]
    have x0 : W6.cell? ⟨W5.heap.size, 0, none⟩ = some (.int .i64 F) := (blk_cell hx6 0).trans rfl
    have x1 : W6.cell? ⟨W5.heap.size, 1, none⟩ = some (.int .i64 L) := (blk_cell hx6 1).trans rfl
    have x2 : W6.cell? ⟨W5.heap.size, 2, none⟩ = some (.int .i64 E) := (blk_cell hx6 2).trans rfl
    have r1 := (h56.block _ (blk_lt H5.out.2.2.2.1)).trans H5.out.2.2.2.1
    have r2 := (h56.block _ (blk_lt H5.out.2.2.2.2.1)).trans H5.out.2.2.2.2.1
    have t1 : W6.cell? ⟨w.heap.size + 1, 0, none⟩ = some (.pointer none) := (blk_cell r1 0).trans rfl
    have t20 : W6.cell? ⟨w.heap.size + 2, 0, none⟩ = some (.int .i64 0) := (blk_cell r2 0).trans rfl
    have t21 : W6.cell? ⟨w.heap.size + 2, 1, none⟩ = some (.int .i64 0) := (blk_cell r2 1).trans rfl
    have t22 : W6.cell? ⟨w.heap.size + 2, 2, none⟩ = some (.int .i64 0) := (blk_cell r2 2).trans rfl
    have z1 := blk_frozen r1 0
    have z20 := blk_frozen r2 0
    have z21 := blk_frozen r2 1
    have z22 := blk_frozen r2 2
    have hne1 : W5.heap.size ≠ w.heap.size + 1 := by omega
    have H6 := Aside0.mk (And.intro r1 (And.intro r2 h56))
    clear y1 y20 y21 y22 hW6 hx6 r1 r2 h56
    go_region
    all_goals (
      go_wp2
      obtain ⟨r1, r2, h56⟩ := H6.out
      obtain ⟨hf, hFLE, hb5, p1, p2, hbad⟩ := H5.out
      obtain ⟨s1, s2, s3, s4⟩ := end4 (w := w) (V := W6) (hb5.trans (h56.mono hb5.size)) r1 r2 (.pointer none) (.int .i64 F) (.int .i64 L) (.int .i64 E)
      refine ⟨_, results_load rfl _ _ ⟨w.heap.size + 1, 0, none⟩ (w.heap.size + 2) none _ _ _ rfl rfl ((blk_cell s1 0).trans rfl) s2, ?_⟩
      rw [HPP.out]
      refine ⟨_, F, L, E, none, rfl, ?_, below_drew1 s3, rfl⟩
      unfold LoadR
      rw [hf]
      exact ⟨rfl, hFLE⟩)
  | some d =>
    obtain ⟨g1, hG, hp5, hps, hcon⟩ := filesS_good HT.out.2 hf
    rw [hFLE] at g1
    injection g1 with e1 e2
    injection e2 with e2 e3
    subst e1 e2 e3
    obtain ⟨gu, gs, gc, hDh, hTU, hTP, hgs, hTC⟩ := hDM d hf
    have hdg := dCells_get gu gs (ptr gc) (.map none) (by omega)
    have yD : ∀ o, (W5.alloc o).cell? ⟨w.heap.size + 3, 0, none⟩ = some (.pointer (some ⟨gu, 0, none⟩)) := fun o => cell_grows9 ((blk_cell hDh 0).trans (List.getElem?_toArray.trans hdg.1))
    have H5 := Aside0.mk (And.intro hf (And.intro hb5 (And.intro p1 (And.intro p2 (And.intro hDh (And.intro hTU (And.intro hTP (And.intro hgs hTC))))))))
    have HG := Aside0.mk (And.intro hp5 (And.intro hps hcon))
    clear hf hFLE hb5 hDM p1 p2 hDh hTU hTP hgs hTC hdg hp5 hps hcon
    go_wp2_with (go_at_call 11; refine Aside0.out ?_)
    refine Aside0.mk ?_
    obtain ⟨W6, hW6⟩ : ∃ W6, W6 = W5.alloc (.cells #[.int .i64 0, .int .i64 0, .int .i64 0] 30) := ⟨_, rfl⟩
    have h56 : Go.RowKit.Below W5.heap.size W5 W6 := by rw [hW6]; exact below_alloc (Go.RowKit.Below.refl _ _) _
    have hs6 : W6.heap.size = W5.heap.size + 1 := by rw [hW6]; simp
    rw [← hW6]
    refine (rows_calls gu W6).mono ?_
    rintro e Wr ⟨rfl, hWr⟩
    rw [hs6]
    have h6r : Go.RowKit.Below W6.heap.size W6 Wr := by rw [hWr]; exact below_alloc (Go.RowKit.Below.refl _ _) _
    have hsr : Wr.heap.size = W5.heap.size + 2 := by rw [hWr]; simp [hs6]
    have hbx : Wr.heap[W5.heap.size + 1]? = some (.cells #[.pointer (some ⟨gu, 0, none⟩)] 35 (0, 0)) := by rw [hWr, ← hs6]; exact heap_alloc_new _ _
    have h5r : Go.RowKit.Below W5.heap.size W5 Wr := h56.trans (h6r.mono h56.size)
    have HI := Aside0.mk (And.intro h56 (And.intro h6r (And.intro hsr (And.intro hbx (And.intro h5r hs6)))))
    clear hW6 h56 hs6 hWr h6r hsr hbx h5r yD
    go_wp2
    refine (wpIn_wide (n := 4)).1 ?_
    refine rows_range (w0 := W6) (base := w.heap.size + 4) (gu := gu) (n0 := w.heap.size) (Bx := W5.heap.size + 1) (rs := d.rows) rfl HI.out.2.2.2.1 (H5.out.2.2.2.2.2.1.below HI.out.1) HI.out.2.1 (by have := HI.out.2.2.1; omega) (Nat.le_trans hG.len (by decide)) (fun r hr => Nat.le_trans (hG.good r hr).2.2.2.1 (by decide)) rfl
      (fun x Lv v => { tmps := #[.agg #[.slice A0 b.uni.length c0, .slice A1 b.exc.length c1, .slice A2 b.ign.length c2, .slice A3 b.idn.length c3, .slice A4 b.scr.length c4, .slice A5 b.joi.length c5, .slice A6 b.con.length c6], .pointer (some ⟨w.heap.size, 0, none⟩), .pointer (some ⟨w.heap.size + 1, 0, none⟩), .pointer (some ⟨w.heap.size + 2, 0, none⟩), .pointer (some ⟨w.heap.size + 3, 0, none⟩), .pointer (some ⟨W5.heap.size, 0, none⟩), .pointer (some ⟨Lv, 0, none⟩), .agg #[.pointer none, .pointer none, .pointer none, .pointer none, .pointer none, .pointer none, .pointer none, .map none], .pointer (some ⟨w.heap.size + 3, 0, none⟩), .pointer (some ⟨w.heap.size + 3, 0, none⟩), .agg #[.slice A0 b.uni.length c0, .slice A1 b.exc.length c1, .slice A2 b.ign.length c2, .slice A3 b.idn.length c3, .slice A4 b.scr.length c4, .slice A5 b.joi.length c5, .slice A6 b.con.length c6], .agg #[.int .i64 0, .int .i64 0, .int .i64 0], .agg #[.int .i64 0, .int .i64 0, .int .i64 0], .agg #[.int .i64 0, .int .i64 0, .int .i64 0], .bool false, undef, .pointer (some ⟨w.heap.size + 3, 0, none⟩), .pointer (some ⟨w.heap.size + 3, 0, none⟩), .pointer (some ⟨w.heap.size + 3, 0, none⟩), .pointer (some ⟨gu, 0, none⟩), .func (.func 40) #[] #[.pointer (some ⟨W5.heap.size + 1, 0, none⟩)], .agg (rowC x v), undef, undef, undef, undef, undef, undef, undef, undef, undef, undef, undef, undef, undef, undef, undef, undef, undef, undef, undef, undef, undef, undef, undef, undef, undef, undef, undef, undef, undef], defers := [] })
      (badI d.rows Wr) (badX w) (badI_stay d.rows Wr) (fun c => badX_stay w (by have := HI.out.2.2.1; omega) c) ⟨rfl, Go.RowKit.Below.refl _ _⟩ ?assign ?body ?done ?stop
    case assign =>
      intro l x A c W Kc h
      unfold rowC at h ⊢
      gi_wp2
      exact h
    case body =>
      rintro lp Z pre x r Lv v W hI hx hL hLv hR hW hZ hK
      obtain ⟨A9, c9, rfl⟩ := Kd.R_slice hR
      obtain ⟨i1, i2⟩ := hI
      have h5W : Go.RowKit.Below W5.heap.size W5 W := HI.out.2.2.2.2.1.trans (i2.mono HI.out.2.2.2.2.1.size)
      have hwW : Go.RowKit.Below w.heap.size w W := H5.out.2.1.trans (h5W.mono H5.out.2.1.size)
      have r1 := (h5W.block _ (blk_lt H5.out.2.2.1)).trans H5.out.2.2.1
      have r2 := (h5W.block _ (blk_lt H5.out.2.2.2.1)).trans H5.out.2.2.2.1
      have l0 : W.cell? ⟨Lv, 0, none⟩ = some (.int .i64 x.first) := (blk_cell hL 0).trans rfl
      have l1 : W.cell? ⟨Lv, 1, none⟩ = some (.int .i64 x.last) := (blk_cell hL 1).trans rfl
      have l2 : W.cell? ⟨Lv, 2, none⟩ = some (.string x.gc) := (blk_cell hL 2).trans rfl
      have l3 : W.cell? ⟨Lv, 3, none⟩ = some (.int .i64 x.ccc) := (blk_cell hL 3).trans rfl
      have l4 : W.cell? ⟨Lv, 4, none⟩ = some (.string x.bidi) := (blk_cell hL 4).trans rfl
      have l5 : W.cell? ⟨Lv, 5, none⟩ = some (.slice A9 x.dec.length c9) := (blk_cell hL 5).trans rfl
      unfold rowC
      have CT := korean_calls x.first x.last x.gc x.ccc x.bidi (.slice A9 x.dec.length c9) W (HT.out.1.below hwW) ⟨_, _, _, rfl⟩
      have HX := Aside0.mk (And.intro hZ (And.intro hK hW))
      have HJ := Aside0.mk (And.intro i1 (And.intro i2 (And.intro hwW (And.intro r1 r2))))
      clear hx hZ hK hW i1 i2 h5W hwW r1 r2 hR hL
      have nxt : ∀ W', Go.RowKit.Below W.heap.size W W' → korB x = false → KeepZ (fun b_ => Z b_ ∨ ((w.heap.size + 4 ≤ b_ ∧ b_ < W6.heap.size) ∨ b_ = W5.heap.size + 1)) W W' ∧ Go.RowKit.Below w.heap.size W W' ∧ rI Wr.heap.size (badI d.rows Wr) Z (pre ++ [x]) W' := fun W' hb' hk => by
        refine rI_next HX.out.1 HX.out.2.1 HX.out.2.2 (fun b_ hb _ => hb'.block b_ hb) (hb'.mono HJ.out.2.2.1.size) ⟨?_, HJ.out.2.1.trans (hb'.mono HJ.out.2.1.size)⟩
        rw [List.any_append, HJ.out.1]
        simp [hk]
      have lev : ∀ W', Go.RowKit.Below W.heap.size W W' → korB x = true → KeepZ (fun b_ => Z b_ ∨ ((w.heap.size + 4 ≤ b_ ∧ b_ < W6.heap.size) ∨ b_ = W5.heap.size + 1)) W ((((W'.setCell ⟨w.heap.size + 1, 0, none⟩ (.pointer none)).setCell ⟨w.heap.size + 2, 0, none⟩ (.int .i64 1)).setCell ⟨w.heap.size + 2, 1, none⟩ (.int .i64 0)).setCell ⟨w.heap.size + 2, 2, none⟩ (.int .i64 16)) ∧ badX w .ret (pre ++ [x]) ((((W'.setCell ⟨w.heap.size + 1, 0, none⟩ (.pointer none)).setCell ⟨w.heap.size + 2, 0, none⟩ (.int .i64 1)).setCell ⟨w.heap.size + 2, 1, none⟩ (.int .i64 0)).setCell ⟨w.heap.size + 2, 2, none⟩ (.int .i64 16)) := fun W' hb' hk => by
        obtain ⟨s1, s2, s3, s4⟩ := end4 (w := w) (V := W') (HJ.out.2.2.1.trans (hb'.mono HJ.out.2.2.1.size)) ((hb'.block _ (blk_lt HJ.out.2.2.2.1)).trans HJ.out.2.2.2.1) ((hb'.block _ (blk_lt HJ.out.2.2.2.2)).trans HJ.out.2.2.2.2) (.pointer none) (.int .i64 1) (.int .i64 0) (.int .i64 16)
        refine rI_leave HX.out.1 HX.out.2.1 (fun b_ hb hk => ?_) ⟨rfl, ?_, s1, s2, s3⟩
        · have := HI.out.2.2.1
          exact (s4 b_ (by omega) (by omega)).trans (hb'.block b_ hb)
        · rw [List.any_append]
          simp [hk]
      have HNX := Aside0.mk (And.intro nxt lev)
      clear nxt lev
      obtain ⟨kk, hkk⟩ : ∃ kk, kk = korS x.first x.last := ⟨_, rfl⟩
      rw [← hkk] at CT
      have HKK := Aside0.mk hkk
      clear hkk
      by_cases hA : x.dec = []
      · have hA0 : x.dec.length = 0 := by rw [hA]; rfl
        rw [hA0] at l5 CT
        have HAA := Aside0.mk hA
        by_cases hB : x.ccc = 0
        · have HBB := Aside0.mk hB
          rw [hB] at l3
          clear hA hA0 CT
          gi_wp2_with (refine ⟨trivial, ?_⟩)
          exact HNX.out.1 _ (Go.RowKit.Below.refl _ _) (by unfold korB; rw [HAA.out, HBB.out]; rfl)
        · have hBb : (x.ccc != 0) = true := bne_iff_ne.2 hB
          clear hA hA0 hB
          cases kk with
          | true =>
            have HCT := Aside0.mk CT
            clear CT
            gi_wp2_with (first
              | (refine ⟨trivial, ?_⟩; gi_at_call 36; refine (CallsIn.inRound lp (callsIn_wide.2 HCT.out)).mono ?_; rintro e w6 ⟨rfl, hb6⟩; have k1 := (hb6.block _ (blk_lt HJ.out.2.2.2.1)).trans HJ.out.2.2.2.1; have k2 := (hb6.block _ (blk_lt HJ.out.2.2.2.2)).trans HJ.out.2.2.2.2; have y1 : w6.cell? ⟨w.heap.size + 1, 0, none⟩ = some (.pointer none) := (blk_cell k1 0).trans rfl; have y20 : w6.cell? ⟨w.heap.size + 2, 0, none⟩ = some (.int .i64 0) := (blk_cell k2 0).trans rfl; have y21 : w6.cell? ⟨w.heap.size + 2, 1, none⟩ = some (.int .i64 0) := (blk_cell k2 1).trans rfl; have y22 : w6.cell? ⟨w.heap.size + 2, 2, none⟩ = some (.int .i64 0) := (blk_cell k2 2).trans rfl; have z1 := blk_frozen k1 0; have z20 := blk_frozen k2 0; have z21 := blk_frozen k2 1; have z22 := blk_frozen k2 2; have H6 := Aside0.mk hb6; clear hb6 k1 k2)
              | (refine ⟨trivial, ?_⟩))
            exact HNX.out.2 _ H6.out (by unfold korB; rw [← HKK.out, hBb]; simp)
          | false =>
            have HCT := Aside0.mk CT
            clear CT
            gi_wp2_with (first
              | (refine ⟨trivial, ?_⟩; gi_at_call 36; refine (CallsIn.inRound lp (callsIn_wide.2 HCT.out)).mono ?_; rintro e w6 ⟨rfl, hb6⟩; have H6 := Aside0.mk hb6; clear hb6))
            exact HNX.out.1 _ H6.out (by unfold korB; rw [← HKK.out, Bool.and_false])
      · have hlz : (x.dec.length : Int) > 0 := by have := List.length_pos_iff.2 hA; omega
        have hdz : decide ((x.dec.length : Int) > 0) = true := decide_eq_true hlz
        have HAA := Aside0.mk hA
        cases kk with
        | true =>
          have HCT := Aside0.mk CT
          clear CT
          gi_wp2_with (first
            | (refine ⟨trivial, ?_⟩; gi_at_call 36; refine (CallsIn.inRound lp (callsIn_wide.2 HCT.out)).mono ?_; rintro e w6 ⟨rfl, hb6⟩; have k1 := (hb6.block _ (blk_lt HJ.out.2.2.2.1)).trans HJ.out.2.2.2.1; have k2 := (hb6.block _ (blk_lt HJ.out.2.2.2.2)).trans HJ.out.2.2.2.2; have y1 : w6.cell? ⟨w.heap.size + 1, 0, none⟩ = some (.pointer none) := (blk_cell k1 0).trans rfl; have y20 : w6.cell? ⟨w.heap.size + 2, 0, none⟩ = some (.int .i64 0) := (blk_cell k2 0).trans rfl; have y21 : w6.cell? ⟨w.heap.size + 2, 1, none⟩ = some (.int .i64 0) := (blk_cell k2 1).trans rfl; have y22 : w6.cell? ⟨w.heap.size + 2, 2, none⟩ = some (.int .i64 0) := (blk_cell k2 2).trans rfl; have z1 := blk_frozen k1 0; have z20 := blk_frozen k2 0; have z21 := blk_frozen k2 1; have z22 := blk_frozen k2 2; have H6 := Aside0.mk hb6; clear hb6 k1 k2))
          exact HNX.out.2 _ H6.out (by unfold korB; rw [← HKK.out]; simp [HAA.out])
        | false =>
          have HCT := Aside0.mk CT
          clear CT
          gi_wp2_with (first
            | (refine ⟨trivial, ?_⟩; gi_at_call 36; refine (CallsIn.inRound lp (callsIn_wide.2 HCT.out)).mono ?_; rintro e w6 ⟨rfl, hb6⟩; have H6 := Aside0.mk hb6; clear hb6))
          exact HNX.out.1 _ H6.out (by unfold korB; rw [← HKK.out, Bool.and_false])
    case done =>
      rintro W ⟨i1, i2⟩ hW hDf
      have h5W : Go.RowKit.Below W5.heap.size W5 W := HI.out.2.2.2.2.1.trans (i2.mono HI.out.2.2.2.2.1.size)
      have hwW : Go.RowKit.Below w.heap.size w W := H5.out.2.1.trans (h5W.mono H5.out.2.1.size)
      have r1 := (h5W.block _ (blk_lt H5.out.2.2.1)).trans H5.out.2.2.1
      have r2 := (h5W.block _ (blk_lt H5.out.2.2.2.1)).trans H5.out.2.2.2.1
      have hDW := (h5W.block _ (blk_lt H5.out.2.2.2.2.1)).trans H5.out.2.2.2.2.1
      have hdg := dCells_get gu gs (ptr gc) (.map none) (by have := H5.out.2.2.2.2.2.2.2.1; omega)
      have yD : W.cell? ⟨w.heap.size + 3, 0, none⟩ = some (.pointer (some ⟨gu, 0, none⟩)) := (blk_cell hDW 0).trans (List.getElem?_toArray.trans hdg.1)
      have hUW := H5.out.2.2.2.2.2.1.below h5W
      have CT := turns_calls hG (w.heap.size + 3) gu (w.heap.size + 4) W yD hUW
      have HCT := Aside0.mk CT
      have HJ := Aside0.mk (And.intro i1 (And.intro h5W (And.intro hwW (And.intro r1 r2))))
      have HDW := Aside0.mk (And.intro hDW (And.intro yD (And.intro hUW (And.intro hDf i2))))
      obtain ⟨ll, hll⟩ : ∃ ll, ll = longS d.rows := ⟨_, rfl⟩
      obtain ⟨pp, hpp⟩ : ∃ pp, pp = pairF d.rows (d.props.getD 0 []) d.rows [] := ⟨_, rfl⟩
      obtain ⟨pb, hpb⟩ : ∃ pb, pb = pp.isSome := ⟨_, rfl⟩
      have HLL := Aside0.mk (And.intro hll (And.intro hpp hpb))
      clear CT i1 i2 h5W hwW r1 r2 hDW hdg yD hUW hDf hll hpp hpb
      obtain ⟨g0, hg0⟩ : ∃ g0, gs[0]? = some g0 := ⟨_, List.getElem?_eq_getElem (by have := H5.out.2.2.2.2.2.2.2.1; omega)⟩
      have hpr0 : d.props[0]? = some (d.props.getD 0 []) := by
        have := HG.out.1
        rw [List.getD_eq_getElem?_getD, List.getElem?_eq_getElem (by omega)]
        rfl
      have hmem : d.props.getD 0 [] ∈ d.props := List.mem_of_getElem? hpr0
      have HPR := Aside0.mk (And.intro hg0 (And.intro ((H5.out.2.2.2.2.2.2.1.2 0 _ _ hg0 hpr0).below HJ.out.2.1) (And.intro (HG.out.2.1 _ hmem).1 (show (d.props.getD 0 []).length ≤ 1000000000 from Nat.le_trans (HG.out.2.1 _ hmem).2 (by decide)))))
      clear hg0 hpr0 hmem
      gi_wp2
      go_wp2_with (first
        | (go_at_call 37; refine HCT.out.mono ?_; rintro e w7 ⟨rr, rfl, hb7, ht7, hf7⟩; have k1 := (hb7.block _ (blk_lt HJ.out.2.2.2.1)).trans HJ.out.2.2.2.1; have k2 := (hb7.block _ (blk_lt HJ.out.2.2.2.2)).trans HJ.out.2.2.2.2; have y1 : w7.cell? ⟨w.heap.size + 1, 0, none⟩ = some (.pointer none) := (blk_cell k1 0).trans rfl; have y20 : w7.cell? ⟨w.heap.size + 2, 0, none⟩ = some (.int .i64 0) := (blk_cell k2 0).trans rfl; have y21 : w7.cell? ⟨w.heap.size + 2, 1, none⟩ = some (.int .i64 0) := (blk_cell k2 1).trans rfl; have y22 : w7.cell? ⟨w.heap.size + 2, 2, none⟩ = some (.int .i64 0) := (blk_cell k2 2).trans rfl; have z1 := blk_frozen k1 0; have z20 := blk_frozen k2 0; have z21 := blk_frozen k2 1; have z22 := blk_frozen k2 2; have H7 := Aside0.mk (And.intro hb7 (And.intro ht7 (And.intro hf7 (And.intro k1 k2)))); clear hb7 ht7 hf7 k1 k2)
        | (go_at_call 38; obtain ⟨dl, hdl1, hdl2⟩ := H7.out.2.2.1 (by assumption); obtain ⟨lt, t1, t2, t3⟩ := hdl1.thin hG hdl2 (fun r hr _ => rowAt_first hG.rise hr (Int.le_refl _) (hG.good r hr).2.1); refine (long_calls hG (w.heap.size + 3) gu (w.heap.size + 4) lt t1 t2 t3 _ (cell_up H7.out.1 HDW.out.2.1) (HDW.out.2.2.1.below H7.out.1)).mono ?_; rw [← HLL.out.1]; rintro e w8 ⟨rfl, hb8⟩; have k1 := (hb8.block _ (blk_lt H7.out.2.2.2.1)).trans H7.out.2.2.2.1; have k2 := (hb8.block _ (blk_lt H7.out.2.2.2.2)).trans H7.out.2.2.2.2; have y1 : w8.cell? ⟨w.heap.size + 1, 0, none⟩ = some (.pointer none) := (blk_cell k1 0).trans rfl; have y20 : w8.cell? ⟨w.heap.size + 2, 0, none⟩ = some (.int .i64 0) := (blk_cell k2 0).trans rfl; have y21 : w8.cell? ⟨w.heap.size + 2, 1, none⟩ = some (.int .i64 0) := (blk_cell k2 1).trans rfl; have y22 : w8.cell? ⟨w.heap.size + 2, 2, none⟩ = some (.int .i64 0) := (blk_cell k2 2).trans rfl; have z1 := blk_frozen k1 0; have z20 := blk_frozen k2 0; have z21 := blk_frozen k2 1; have z22 := blk_frozen k2 2; have H8 := Aside0.mk (And.intro hb8 (And.intro hdl1 (And.intro hdl2 (And.intro k1 k2)))); clear hb8 hdl1 hdl2 t1 t2 t3 k1 k2)
        | (go_at_call 39; refine (pairs_calls hG (w.heap.size + 3) gu (w.heap.size + 4) gs g0 (d.props.getD 0 []) (ptr gc) _ ((H8.out.1.block _ (blk_lt ((H7.out.1.block _ (blk_lt HDW.out.1)).trans HDW.out.1))).trans ((H7.out.1.block _ (blk_lt HDW.out.1)).trans HDW.out.1)) HPR.out.1 H5.out.2.2.2.2.2.2.2.1 (Nat.lt_succ_self _) ((HDW.out.2.2.1.below H7.out.1).below H8.out.1) (((HPR.out.2.1.below H7.out.1)).below H8.out.1) HPR.out.2.2.2 HPR.out.2.2.1).mono ?_; rw [← HLL.out.2.1, ← HLL.out.2.2]; rintro e w9 ⟨rfl, hg9, hP9⟩; have k1 := (hg9.block _ (blk_lt H8.out.2.2.2.1) (fun e => by injection e with e; omega)).trans H8.out.2.2.2.1; have k2 := (hg9.block _ (blk_lt H8.out.2.2.2.2) (fun e => by injection e with e; omega)).trans H8.out.2.2.2.2; have y1 : w9.cell? ⟨w.heap.size + 1, 0, none⟩ = some (.pointer none) := (blk_cell k1 0).trans rfl; have y20 : w9.cell? ⟨w.heap.size + 2, 0, none⟩ = some (.int .i64 0) := (blk_cell k2 0).trans rfl; have y21 : w9.cell? ⟨w.heap.size + 2, 1, none⟩ = some (.int .i64 0) := (blk_cell k2 1).trans rfl; have y22 : w9.cell? ⟨w.heap.size + 2, 2, none⟩ = some (.int .i64 0) := (blk_cell k2 2).trans rfl; have z1 := blk_frozen k1 0; have z20 := blk_frozen k2 0; have z21 := blk_frozen k2 1; have z22 := blk_frozen k2 2; have H9 := Aside0.mk (And.intro hg9 (And.intro hP9 (And.intro k1 k2))); clear hg9 hP9 k1 k2))
      · have hcy := H7.out.2.1 (by assumption)
        obtain ⟨hb7, ht7, hf7, k1, k2⟩ := H7.out
        have hWl := (Array.getElem?_eq_some_iff.1 HDW.out.2.2.2.1).1
        have hs5r := HI.out.2.2.1
        have hbV : Go.RowKit.Below w.heap.size w w7 := HJ.out.2.2.1.trans (hb7.mono HJ.out.2.2.1.size)
        have hDfV := (hb7.block _ hWl).trans HDW.out.2.2.2.1
        obtain ⟨s1, s2, s3, s4⟩ := end4 (w := w) (V := w7) hbV k1 k2 (.pointer none) (.int .i64 1) (.int .i64 0) (.int .i64 17)
        refine ⟨by simp, .inl ⟨_, _, rfl, run_takeDeferred ((s4 _ (by omega) (by omega)).trans hDfV), ?_⟩⟩
        refine ⟨_, results_load rfl _ _ ⟨w.heap.size + 1, 0, none⟩ (w.heap.size + 2) none _ _ _ rfl rfl ((blk_cell ((World.putObj_heap_other (by omega)).trans s1) 0).trans rfl) ((World.putObj_heap_other (by omega)).trans s2), ?_⟩
        rw [HPP.out]
        refine ⟨_, 1, 0, 17, none, rfl, ?_, s3.trans (below_put _ Wr.heap.size w.heap.size _ (by omega)), rfl⟩
        unfold LoadR
        rw [H5.out.1]
        exact .inr ⟨HJ.out.1, .inl ⟨hcy, rfl, rfl, rfl, rfl⟩⟩
      · have hlt : ll = true := by assumption
        obtain ⟨hb7, ht7, hf7, -, -⟩ := H7.out
        obtain ⟨hb8, hdl1, hdl2, k1, k2⟩ := H8.out
        have hWl := (Array.getElem?_eq_some_iff.1 HDW.out.2.2.2.1).1
        have hs5r := HI.out.2.2.1
        have hb78 : Go.RowKit.Below W.heap.size W w8 := hb7.trans (hb8.mono hb7.size)
        have hbV : Go.RowKit.Below w.heap.size w w8 := HJ.out.2.2.1.trans (hb78.mono HJ.out.2.2.1.size)
        have hDfV := (hb78.block _ hWl).trans HDW.out.2.2.2.1
        have hnc := Topo_noCyc hG hdl1 hdl2
        obtain ⟨s1, s2, s3, s4⟩ := end4 (w := w) (V := w8) hbV k1 k2 (.pointer none) (.int .i64 1) (.int .i64 0) (.int .i64 36)
        refine ⟨by simp, .inl ⟨_, _, rfl, run_takeDeferred ((s4 _ (by omega) (by omega)).trans hDfV), ?_⟩⟩
        refine ⟨_, results_load rfl _ _ ⟨w.heap.size + 1, 0, none⟩ (w.heap.size + 2) none _ _ _ rfl rfl ((blk_cell ((World.putObj_heap_other (by omega)).trans s1) 0).trans rfl) ((World.putObj_heap_other (by omega)).trans s2), ?_⟩
        rw [HPP.out]
        refine ⟨_, 1, 0, 36, none, rfl, ?_, s3.trans (below_put _ Wr.heap.size w.heap.size _ (by omega)), rfl⟩
        unfold LoadR
        rw [H5.out.1]
        exact .inr ⟨HJ.out.1, .inr ⟨hnc, .inl ⟨by rw [← HLL.out.1]; exact hlt, rfl, rfl, rfl, rfl⟩⟩⟩
      · have hpn : (!pb) = true := by assumption
        obtain ⟨hb7, ht7, hf7, -, -⟩ := H7.out
        obtain ⟨hb8, hdl1, hdl2, -, -⟩ := H8.out
        obtain ⟨hg9, hP9, k1, k2⟩ := H9.out
        have hWl := (Array.getElem?_eq_some_iff.1 HDW.out.2.2.2.1).1
        have hs5r := HI.out.2.2.1
        have hb78 : Go.RowKit.Below W.heap.size W w8 := hb7.trans (hb8.mono hb7.size)
        have hb8w : Go.RowKit.Below w.heap.size w w8 := HJ.out.2.2.1.trans (hb78.mono HJ.out.2.2.1.size)
        have hws := HJ.out.2.2.1.size
        have h8s := hb78.size
        have hbV : Go.RowKit.Below w.heap.size w w9 := hb8w.trans ⟨hg9.os, hg9.tape, hg9.output, hg9.size, fun k hk => hg9.block k (by omega) (fun e => by injection e with e; omega)⟩
        have hDf8 := (hb78.block _ hWl).trans HDW.out.2.2.2.1
        have hDfV := (hg9.block _ (by omega) (fun e => by injection e with e; omega)).trans hDf8
        have hnc := Topo_noCyc hG hdl1 hdl2
        have hlf : ll = false := by assumption
        have hlg : longS d.rows = false := by rw [← HLL.out.1]; exact hlf
        obtain ⟨s1, s2, s3, s4⟩ := end4 (w := w) (V := w9) hbV k1 k2 (.pointer none) (.int .i64 1) (.int .i64 0) (.int .i64 15)
        refine ⟨by simp, .inl ⟨_, _, rfl, run_takeDeferred ((s4 _ (by omega) (by omega)).trans hDfV), ?_⟩⟩
        refine ⟨_, results_load rfl _ _ ⟨w.heap.size + 1, 0, none⟩ (w.heap.size + 2) none _ _ _ rfl rfl ((blk_cell ((World.putObj_heap_other (by omega)).trans s1) 0).trans rfl) ((World.putObj_heap_other (by omega)).trans s2), ?_⟩
        rw [HPP.out]
        refine ⟨_, 1, 0, 15, none, rfl, ?_, s3.trans (below_put _ Wr.heap.size w.heap.size _ (by omega)), rfl⟩
        unfold LoadR
        rw [H5.out.1]
        refine .inr ⟨HJ.out.1, .inr ⟨hnc, .inr ⟨hlg, .inl ⟨?_, rfl, rfl, rfl, rfl⟩⟩⟩⟩
        rw [← HLL.out.2.1]
        have := HLL.out.2.2
        cases hq : pp with
        | none => rfl
        | some l => rw [hq] at this; rw [this] at hpn; cases hpn
      · have hpn : (!pb) = false := by assumption
        obtain ⟨hb7, ht7, hf7, -, -⟩ := H7.out
        obtain ⟨hb8, hdl1, hdl2, -, -⟩ := H8.out
        obtain ⟨hg9, hP9, k1, k2⟩ := H9.out
        have hWl := (Array.getElem?_eq_some_iff.1 HDW.out.2.2.2.1).1
        have hs5r := HI.out.2.2.1
        have hb78 : Go.RowKit.Below W.heap.size W w8 := hb7.trans (hb8.mono hb7.size)
        have hb8w : Go.RowKit.Below w.heap.size w w8 := HJ.out.2.2.1.trans (hb78.mono HJ.out.2.2.1.size)
        have hws := HJ.out.2.2.1.size
        have h8s := hb78.size
        have hbV : Go.RowKit.Below w.heap.size w w9 := hb8w.trans ⟨hg9.os, hg9.tape, hg9.output, hg9.size, fun k hk => hg9.block k (by omega) (fun e => by injection e with e; omega)⟩
        have hDf8 := (hb78.block _ hWl).trans HDW.out.2.2.2.1
        have hDfV := (hg9.block _ (by omega) (fun e => by injection e with e; omega)).trans hDf8
        have hnc := Topo_noCyc hG hdl1 hdl2
        have hlf : ll = false := by assumption
        have hlg : longS d.rows = false := by rw [← HLL.out.1]; exact hlf
        obtain ⟨lp, hlp⟩ : ∃ lp, pp = some lp := by
          have := HLL.out.2.2
          cases hq : pp with
          | none => rw [hq] at this; rw [this] at hpn; cases hpn
          | some l => exact ⟨l, rfl⟩
        have hpF : pairF d.rows (d.props.getD 0 []) d.rows [] = some lp := by rw [← HLL.out.2.1]; exact hlp
        obtain ⟨hD9, hM9⟩ := hP9 lp (by first | exact hlp | exact hpF)
        obtain ⟨s1, s2, s3, s4⟩ := end4 (w := w) (V := w9) hbV k1 k2 (.pointer (some ⟨w.heap.size + 3, 0, none⟩)) (.int .i64 0) (.int .i64 0) (.int .i64 0)
        refine ⟨by simp, .inl ⟨_, _, rfl, run_takeDeferred ((s4 _ (by omega) (by omega)).trans hDfV), ?_⟩⟩
        refine ⟨_, results_load rfl _ _ ⟨w.heap.size + 1, 0, none⟩ (w.heap.size + 2) (some ⟨w.heap.size + 3, 0, none⟩) _ _ _ rfl rfl ((blk_cell ((World.putObj_heap_other (by omega)).trans s1) 0).trans rfl) ((World.putObj_heap_other (by omega)).trans s2), ?_⟩
        rw [HPP.out]
        obtain ⟨V4, hV4⟩ : ∃ V4, V4 = ((((w9.setCell ⟨w.heap.size + 1, 0, none⟩ (.pointer (some ⟨w.heap.size + 3, 0, none⟩))).setCell ⟨w.heap.size + 2, 0, none⟩ (.int .i64 0)).setCell ⟨w.heap.size + 2, 1, none⟩ (.int .i64 0)).setCell ⟨w.heap.size + 2, 2, none⟩ (.int .i64 0)) := ⟨_, rfl⟩
        rw [← hV4] at s1 s2 s3 s4 ⊢
        have ht : ∀ k, w.heap.size + 4 ≤ k → k < w8.heap.size → k ≠ Wr.heap.size → (V4.putObj Wr.heap.size (.deferred none)).heap[k]? = w8.heap[k]? := fun k hk hlt hne => (World.putObj_heap_other (by omega)).trans ((s4 k (by omega) (by omega)).trans (hg9.block k hlt (fun e => by injection e with e; omega)))
        have hU8 := (HDW.out.2.2.1.below hb78).turn hDf8 ht
        have hC8 := ((H5.out.2.2.2.2.2.2.2.2.below HJ.out.2.1).below hb78).turn hDf8 ht
        have hT8 : PTabs (V4.putObj Wr.heap.size (.deferred none)) w.heap.size gs d.props := ⟨H5.out.2.2.2.2.2.2.1.1, fun j g l h1 h2 => ((((H5.out.2.2.2.2.2.2.1.2 j g l h1 h2).below HJ.out.2.1).below hb78).turn hDf8 ht).lower (by omega)⟩
        refine ⟨_, 0, 0, 0, some (d, lp), rfl, ?_, s3.trans (below_put _ Wr.heap.size w.heap.size _ (by omega)), w.heap.size + 3, w8.heap.size + 2, rfl, by omega, by omega, ⟨gu, gs, gc, (World.putObj_heap_other (by omega)).trans ((s4 _ (by omega) (by omega)).trans hD9), hU8.lower (by omega), hT8, H5.out.2.2.2.2.2.2.2.1, hC8.lower (by omega)⟩, MapIs.block hM9 ((World.putObj_heap_other (by omega)).trans (s4 _ (by omega) (by omega)))⟩
        unfold LoadR
        rw [H5.out.1]
        exact .inr ⟨HJ.out.1, .inr ⟨hnc, .inr ⟨hlg, .inr ⟨lp, hpF, rfl, rfl, rfl, rfl⟩⟩⟩⟩
    case stop =>
      rintro c pre x r W hx ⟨rfl, hbad, hres, hres2, hb⟩ hDf
      have hsr := HI.out.2.2.1
      gi_wp2
      go_wp2
      refine ⟨by simp, .inl ⟨_, _, rfl, run_takeDeferred hDf, ?_⟩⟩
      refine ⟨_, results_load rfl _ _ ⟨w.heap.size + 1, 0, none⟩ (w.heap.size + 2) none _ _ _ rfl rfl ?_ ((World.putObj_heap_other (by omega)).trans hres2), ?_⟩
      · exact (blk_cell ((World.putObj_heap_other (by omega)).trans hres) 0).trans rfl
      · rw [HPP.out]
        refine ⟨_, 1, 0, 16, none, rfl, ?_, hb.trans (below_put W Wr.heap.size w.heap.size _ (by omega)), rfl⟩
        unfold LoadR
        rw [H5.out.1]
        refine .inl ⟨?_, rfl, rfl, rfl, rfl⟩
        rw [hx]
        rw [List.any_append] at hbad ⊢
        simp at hbad ⊢
        rcases hbad with h | h
        · exact .inl h
        · exact .inr (.inl h)
end Go.Proofs.YtebgebgkieglhaaGreatDoor.FieldW
end
