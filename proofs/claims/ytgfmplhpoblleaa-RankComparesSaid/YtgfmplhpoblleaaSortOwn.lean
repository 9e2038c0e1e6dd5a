/- slices.SortFunc over a row of the call's own: a permutation, sorted, and nothing else turned. Asked: the comparer's contract in every world that differs in this row alone, and that it is a strict weak order. -/
import Derived.Shelf.SlSortCmp.WholeK
import Derived.Shelf.SlSortCmp.NoneTotal
import Derived.Test.YtgfmplhpoblleaaWMore
namespace Go.Proofs.Ytgfmplhpoblleaa.SortOwn
open Go.RowKit Go.Shelf Go.Lib Go.Proofs Go.Sort Go.Proofs.YtgfmplhpoblleaaW.PrintWords
set_option linter.unusedVariables false
set_option linter.unusedSimpArgs false

/-- What draws and new blocks make of a world. -/
structure Grows (w w' : World) : Prop where
  below : Go.RowKit.Below w.heap.size w w'
  drawn : w.drawn ≤ w'.drawn
theorem Grows.refl (w : World) : Grows w w := ⟨Go.RowKit.Below.refl _ _, Nat.le_refl _⟩
theorem Grows.drewN {w w' : World} (h : Grows w w') (n : Nat) : Grows w (w'.drewN n) := ⟨pw_below_drewN h.below n, by have := h.drawn; simp [World.drewN]; omega⟩
theorem Grows.drew {w w' : World} (h : Grows w w') : Grows w w'.drew := ⟨below_drew1 h.below, Nat.le_succ_of_le h.drawn⟩
theorem Grows.drawn0 {w w' w1 : World} (h : Grows w w') (hd : Drawn0 w' w1) : Grows w w1 := by obtain ⟨n, rfl⟩ := hd; exact h.drewN n
theorem Grows.alloc {w w' : World} (h : Grows w w') (o : Obj) : Grows w (w'.alloc o) := ⟨below_alloc h.below o, h.drawn⟩
theorem Grows.trans {a b c : World} (h : Grows a b) (k : Grows b c) : Grows a c := ⟨h.below.trans (k.below.mono h.below.size), Nat.le_trans h.drawn k.drawn⟩
theorem Grows.grow {w w' : World} (h : Grows w w') : ∃ q os', w' = Go.Sort.grow (w.drewN q) os' := by
  obtain ⟨hb, hd⟩ := h
  refine ⟨w'.drawn - w.drawn, w'.heap.extract w.heap.size w'.heap.size, ?_⟩
  have hh : w'.heap = w.heap ++ w'.heap.extract w.heap.size w'.heap.size := by
    apply Array.ext_getElem?
    intro i
    rcases Nat.lt_or_ge i w.heap.size with hi | hi
    · rw [hb.block i hi, Array.getElem?_append_left hi]
    · rw [Array.getElem?_append_right hi, Array.getElem?_extract]
      by_cases h2 : i - w.heap.size < w'.heap.size - w.heap.size
      · rw [if_pos (by omega)]; congr 1; omega
      · rw [if_neg (by omega), Array.getElem?_eq_none (by omega)]
  unfold Go.Sort.grow World.drewN
  obtain ⟨h1, t1, d1, o1, u1⟩ := w'
  have e1 := hb.os
  have e2 := hb.tape
  have e3 := hb.output
  simp only at hh e1 e2 e3 hd ⊢
  subst e1 e2 e3
  congr 1
  omega

/-! ### A row's cells, element by element -/
section
variable {α : Type} [Inhabited α] (enc : α → List Value) (k : Nat)
theorem flat_get (hk : ∀ x, (enc x).length = k) (d : Array α) (j i : Nat) (hj : j < d.size) (hi : i < k) : (flatK enc k d)[j * k + i]! = (enc d[j]!)[i]! := by
  have hlt : j * k + i < d.size * k := by
    have : (j + 1) * k ≤ d.size * k := Nat.mul_le_mul_right k hj
    rw [Nat.add_mul] at this; omega
  rw [get_flatK enc k d _ hlt]
  have h1 : (j * k + i) / k = j := by
    rw [Nat.add_comm, Nat.add_mul_div_right _ _ (by omega), Nat.div_eq_of_lt hi]; omega
  have h2 : (j * k + i) % k = i := by
    rw [Nat.add_comm, Nat.add_mul_mod_self_right, Nat.mod_eq_of_lt hi]
  rw [h1, h2]
theorem flat_size (d : Array α) : (flatK enc k d).size = d.size * k := by simp [flatK]
theorem flat_chunk (hk : ∀ x, (enc x).length = k) (d : Array α) (j : Nat) (hj : j < d.size) : ((flatK enc k d).toList.drop (j * k)).take k = enc d[j]! := by
  have hle : j * k + k ≤ d.size * k := by
    have : (j + 1) * k ≤ d.size * k := Nat.mul_le_mul_right k hj
    rw [Nat.add_mul] at this; omega
  apply List.ext_getElem
  · rw [List.length_take, List.length_drop, Array.length_toList, flat_size, hk]; omega
  · intro i h1 h2
    rw [hk] at h2
    have h3 : j * k + i < (flatK enc k d).size := by rw [flat_size]; omega
    have := flat_get enc k hk d j i hj h2
    rw [getElem!_pos (flatK enc k d) (j * k + i) h3, getElem!_pos (enc d[j]!) i (by rw [hk]; exact h2)] at this
    simp only [List.getElem_take, List.getElem_drop, Array.getElem_toList]
    exact this
end

/-! ### The sort's worlds -/
section
variable {α : Type} [Inhabited α] (enc : α → List Value) (k : Nat)
theorem sortWorld_heap (w : World) (blk off m : Nat) (d : Array α) (os : Array Obj) (b : Nat) (hb : b < w.heap.size) (hne : b ≠ blk) : (sortWorldK enc k w blk off m d os).heap[b]? = w.heap[b]? := by
  unfold sortWorldK
  rw [heap_grow_old _ _ (by simp [putRowK, putRow, mapBlock, ahead]; exact hb)]
  simp only [putRowK, putRow, mapBlock, ahead]
  rw [Array.getElem?_modify]
  simp [Ne.symm hne]
theorem sortWorld_grown (w : World) (blk off m : Nat) (d : Array α) (os : Array Obj) : w.grownBy (sortWorldK enc k w blk off m d os) (some blk) := by
  refine ⟨rfl, rfl, rfl, ?_, fun b hb hne => sortWorld_heap enc k w blk off m d os b hb (fun e => hne (by rw [e]))⟩
  unfold sortWorldK
  simp [grow, putRowK, putRow, mapBlock, ahead]
theorem sortWorld_block (w : World) (blk m : Nat) (d : Array α) (os : Array Obj) {cur : Array Value} {e : TypeId} (h : w.heap[blk]? = some (.cells cur e (0, 0))) :
    (sortWorldK enc k w blk 0 m d os).heap[blk]? = some (.cells (putCells id 0 (flatK enc k d) cur) e (0, 0)) := by
  have hb : blk < w.heap.size := (Array.getElem?_eq_some_iff.1 h).1
  unfold sortWorldK
  rw [heap_grow_old _ _ (by simp [putRowK, putRow, mapBlock, ahead]; exact hb)]
  simp only [putRowK, putRow, mapBlock, ahead]
  rw [Array.getElem?_modify, if_pos rfl]
  show Option.map _ (w.heap[blk]?) = _
  rw [h]
  rfl
theorem putCells_take (F cur : Array Value) (hs : F.size ≤ cur.size) : (putCells id 0 F cur).toList.take F.size = F.toList := by
  apply List.ext_getElem
  · simp [putCells]; omega
  · intro i h1 h2
    have h3 : i < F.size := by simpa using h2
    simp [putCells, h3]
theorem putCells_size (F cur : Array Value) : (putCells id 0 F cur).size = cur.size := by simp [putCells]
end

/-- A row of the call's own is sorted. -/
theorem sort_row {P : Program} {ρ : Ren} {β : Type} (L : SlLaysF0.n6 P ρ) (k : Nat) (hk0 : 0 < k) (aE : ∀ w, (isAgg (ρ.t 24)).run P w = .ok true w) (zE : ∀ w, (Go.sizeOf (ρ.t 24)).run P w = .ok k w)
    (R : β → List Value → Prop) (hlen : ∀ b c, R b c → c.length = k) (hone : ∀ b c, R b c → ∀ u ∈ c, u.oneCell' = true) (cf : β → β → Int) (hO : SWO (ltOf cf)) (g : Nat) (cb : Array Value) (w : World)
    (eg : ∀ args w, (callFunc g args).run P w = .ok (.enter g args) w) (base : Nat) (e : TypeId) (v : Value) (xs : List β) (cells : List Value) (hn : xs.length < 4611686018427387904)
    (hcmp : ∀ W', w.grownBy W' v.ownBlock → ∀ x c y c', R x c → R y c' → Calls P g (#[.agg c.toArray, .agg c'.toArray] ++ cb) W' fun e w' => e = .returned (.int .i64 (cf x y)) ∧ Grows W' w')
    (hown : w.ownsRow base e k v xs.length cells) (hr : Reps R k xs cells) :
    Calls P (ρ.f 6) #[v, .func (.func g) #[] cb] w fun e' w' => e' = .returned (.tuple #[]) ∧ ∃ xs' cells', xs'.Perm xs ∧ xs'.Pairwise (fun a b => ¬ cf b a < 0) ∧ Reps R k xs' cells' ∧ w'.ownsRow base e k v xs'.length cells' ∧ w.grownBy w' v.ownBlock := by
  rcases Nat.eq_zero_or_pos xs.length with h0 | hpos
  · have hx : xs = [] := List.length_eq_zero_iff.1 h0
    subst hx
    have hc : cells = [] := by have := hr.1; simpa using this
    subst hc
    rcases hown.2 with ⟨rfl, _⟩ | ⟨gb, cap, cur, rfl, hg, hh, hnc, hm, hsz, ht⟩
    · exact (AnyF.slices_SortFunc_none L none 0 (.func (.func g) #[] cb) w).mono fun e' w' ⟨he, hw⟩ => ⟨he, [], [], List.Perm.refl _, List.Pairwise.nil, hr, by rw [hw]; exact hown, by rw [hw]; exact ⟨rfl, rfl, rfl, Nat.le_refl _, fun _ _ _ => rfl⟩⟩
    · exact (AnyF.slices_SortFunc_none L (some ⟨gb, 0, none⟩) cap (.func (.func g) #[] cb) w).mono fun e' w' ⟨he, hw⟩ => ⟨he, [], [], List.Perm.refl _, List.Pairwise.nil, hr, by rw [hw]; exact hown, by rw [hw]; exact ⟨rfl, rfl, rfl, Nat.le_refl _, fun _ _ _ => rfl⟩⟩
  · rcases hown.2 with ⟨_, hz⟩ | ⟨gb, cap, cur, rfl, hg, hh, hnc, hm, hsz, ht⟩
    · omega
    have hlc : cells.length = xs.length * k := hr.1
    have hch : ∀ j (hj : j < xs.length), R xs[j] ((cells.drop (j * k)).take k) := fun j hj => hr.2 j xs[j] (List.getElem?_eq_getElem hj)
    let T := {p : β × List Value // R p.1 p.2}
    have hin : Inhabited T := ⟨⟨(xs[0]'hpos, (cells.drop (0 * k)).take k), hch 0 hpos⟩⟩
    let enc : T → List Value := fun p => p.1.2
    let cf' : T → T → Int := fun p q => cf p.1.1 q.1.1
    let d : Array T := Array.ofFn (n := xs.length) fun j => ⟨(xs[j.1], (cells.drop (j.1 * k)).take k), hch j.1 j.2⟩
    have hds : d.size = xs.length := by simp [d]
    have hdj : ∀ j (hj : j < xs.length), d[j]!.1 = (xs[j], (cells.drop (j * k)).take k) := by
      intro j hj
      have : j < d.size := by omega
      rw [getElem!_pos d j this]
      simp [d]
    have hek : ∀ x, (enc x).length = k := fun x => hlen _ _ x.2
    have hO' : SWO (ltOf cf') := ⟨fun x => hO.irrefl _, fun x y z => hO.trans _ _ _, fun x y z => hO.ntrans _ _ _⟩
    have hblk : gb < w.heap.size := (Array.getElem?_eq_some_iff.1 hh).1
    have hH : HoldsK enc k w gb 0 d := by
      intro t ht'
      rw [flat_size, hds] at ht'
      have hcellt : cells[t]? = cur[t]? := by
        rw [← ht, List.getElem?_take_of_lt ht', Array.getElem?_toList]
      have htc : t < cells.length := by omega
      have e1 : (flatK enc k d)[t]! = cells[t] := by
        rw [get_flatK enc k d t (by rw [hds]; exact ht')]
        have hjlt : t / k < xs.length := Nat.div_lt_of_lt_mul (by rw [Nat.mul_comm]; exact ht')
        have : enc d[t / k]! = (cells.drop (t / k * k)).take k := by show (d[t / k]!).1.2 = _; rw [hdj _ hjlt]
        rw [this]
        have hmod := Nat.mod_lt t hk0
        have hdm : t / k * k + t % k = t := Nat.div_add_mod' t k
        have hle : t / k * k + k ≤ cells.length := by
          have : (t / k + 1) * k ≤ xs.length * k := Nat.mul_le_mul_right k hjlt
          rw [Nat.add_mul] at this; omega
        rw [getElem!_pos _ _ (by rw [List.length_take, List.length_drop]; omega)]
        simp only [List.getElem_take, List.getElem_drop]
        congr 1
      constructor
      · rw [Nat.zero_add, World.cell?, hh, e1]
        simp only [Option.isSome_none, Bool.false_eq_true, if_false]
        rw [← hcellt, List.getElem?_eq_getElem htc]; rfl
      · simp [World.frozen?, hh]
    have hcl : CmpLays P g cb enc k cf' gb 0 d.size w := by
      intro m os dk _ x y
      refine (hcmp (sortWorldK enc k w gb 0 m dk os) (sortWorld_grown enc k w gb 0 m dk os) _ _ _ _ x.2 y.2).mono ?_
      rintro e' w' ⟨he, hgr⟩
      exact ⟨he, hgr.grow⟩
    have key := AnyQ.slices_SortFunc L k aE zE enc hek (fun x => hone _ _ x.2) cf' hO' g cb gb 0 cap d w eg hcl hH hblk (by rw [hds]; exact hn)
    rw [hds] at key
    refine key.mono ?_
    rintro e' w' ⟨he, d', q, os, hp, hs, rfl⟩
    have hd's : d'.size = xs.length := by rw [hp.1, hds]
    have hperm : d'.toList.Perm d.toList := by
      have := hp.2.2
      have e1 : d'.extract 0 xs.length = d' := by rw [← hd's]; simp
      have e2 : d.extract 0 xs.length = d := by rw [← hds]; simp
      rwa [e1, e2] at this
    have hdl : d.toList.map (fun p : T => p.1.1) = xs := by
      apply List.ext_getElem
      · simp [hds]
      · intro i h1 h2
        simp [d]
    have hlen' : (d'.toList.map (fun p : T => p.1.1)).length = xs.length := by simp [hd's]
    refine ⟨he, d'.toList.map (fun p : T => p.1.1), (flatK enc k d').toList, ?_, ?_, ?_, ?_, sortWorld_grown enc k w gb 0 q d' os⟩
    · have := hperm.map (fun p : T => p.1.1)
      rwa [hdl] at this
    · rw [List.pairwise_iff_getElem]
      intro i j hi hj hij
      have hi' : i < d'.size := by simpa using hi
      have hj' : j < d'.size := by simpa using hj
      have := hs i j (Nat.zero_le _) hij (by omega)
      rw [getElem!_pos d' i hi', getElem!_pos d' j hj'] at this
      simp only [List.getElem_map, Array.getElem_toList]
      have h2 := of_decide_eq_false this
      exact h2
    · refine ⟨by rw [Array.length_toList, flat_size, hlen', hd's], ?_⟩
      intro j p hj
      have hj0 : j < xs.length := by have := (List.getElem?_eq_some_iff.1 hj).1; rw [hlen'] at this; exact this
      have hj' : j < d'.size := by omega
      rw [flat_chunk enc k hek d' j hj', getElem!_pos d' j hj']
      have : d'.toList[j]? = some d'[j] := by simp [hj']
      rw [List.getElem?_map, this] at hj
      simp only [Option.map_some, Option.some.injEq] at hj
      rw [← hj]
      exact d'[j].2
    · rw [hlen']
      refine ⟨by rw [Array.length_toList, flat_size, hd's], .inr ⟨gb, cap, _, rfl, hg, sortWorld_block enc k w gb q d' os hh, hnc, hm, by rw [putCells_size]; exact hsz, ?_⟩⟩
      have h2 := putCells_take (flatK enc k d') cur (by rw [flat_size, hd's, hsz]; exact Nat.mul_le_mul_right k hnc)
      rwa [flat_size, hd's] at h2

/-! ### A row whose elements lead to what is only read: its parts -/
section
variable {α : Type} {d : Kd α} {e base : Nat} {ok : Nat → Prop} {w w' : World} {v : Value} {xs : List α} {cells : List Value}
theorem N_parts (h : Kd.N d e w base ok v xs) : ∃ cells, w.ownsRow base e d.sz v xs.length cells ∧ Reps (fun x c => Kd.FK d w (fun k => ok k ∧ some k ≠ v.ownBlock) x c) d.sz xs cells ∧ ∀ k, v.ownBlock = some k → ok k := by
  obtain ⟨h0, rows, hl, ⟨_, inner, hown, hrep⟩, hf⟩ := h
  refine ⟨inner, by rw [← hl]; exact hown, ⟨by rw [← hl]; exact hrep.1, fun j x hx => ?_⟩, h0⟩
  have hj : j < rows.length := by rw [hl]; exact (List.getElem?_eq_some_iff.1 hx).1
  have h1 := hrep.2 j rows[j] (List.getElem?_eq_getElem hj)
  have h2 : (inner.drop (j * d.sz)).take d.sz = rows[j] := h1.1
  rw [h2]
  exact hf j x rows[j] hx (List.getElem?_eq_getElem hj)
theorem N_of_parts (hown : w.ownsRow base e d.sz v xs.length cells) (hrep : Reps (fun x c => Kd.FK d w (fun k => ok k ∧ some k ≠ v.ownBlock) x c) d.sz xs cells) (h0 : ∀ k, v.ownBlock = some k → ok k) : Kd.N d e w base ok v xs := by
  refine ⟨h0, Kd.chunks d.sz xs.length cells, Kd.chunks_length _ _ _, ⟨fun k hk => hk.symm, cells, by rw [Kd.chunks_length]; exact hown, Kd.reps_raw hrep (fun x c hp => ⟨d.K_len (Kd.FK_now hp), d.K_one (Kd.FK_now hp)⟩)⟩, fun j x c hx hc => ?_⟩
  rw [Kd.chunks_get hc]
  exact hrep.2 j x hx
theorem Reps_grown {row : Option Nat} (hr : Reps (fun x c => Kd.FK d w (fun k => ok k ∧ some k ≠ row) x c) d.sz xs cells) (hg : w.grownBy w' row) : Reps (fun x c => Kd.FK d w' (fun k => ok k ∧ some k ≠ row) x c) d.sz xs cells :=
  ⟨hr.1, fun j x hx => Kd.FK_step (hr.2 j x hx) (fun k hk hlt => hg.block k hlt hk.2)⟩
end
#print axioms sort_row
end Go.Proofs.Ytgfmplhpoblleaa.SortOwn
