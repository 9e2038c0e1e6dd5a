/- clear(s[k:]) on a row of the call's own: what lies ahead of k stays. -/
import Derived.Lib.SliceRun
import Derived.Laws.IdiomCopy
import Derived.Test.YtgfmplhpoblleaaWMore
namespace Go.Proofs.Ytgfmplhpoblleaa.ClearRow
open Go.RowKit Go.Proofs.YtgfmplhpoblleaaW.PrintWords
set_option linter.unusedVariables false
set_option linter.unusedSimpArgs false

theorem run_clear_row {P : Program} (w : World) (t e ty : TypeId) (z : Value) (ht : P.underlying t = some (.slice e)) (hv : ∀ w, (zeroValue e).run P w = .ok z w) (b o n c : Nat) (h1 : ∀ v ∈ (Builtin.zeroCells z.cells n).toList, v.oneCell' = true) (hn : 0 < n)
    (hc : ∀ j, j < (Builtin.zeroCells z.cells n).toList.length → (w.cell? ⟨b, o + j, none⟩).isSome = true) (hf : ∀ j, j < (Builtin.zeroCells z.cells n).toList.length → w.frozen? ⟨b, o + j, none⟩ = false) :
    (Builtin.clear_ #[t] ty #[.slice (some ⟨b, o, none⟩) n c]).run P w = .ok (.tuple #[]) (w.setCells b o (Builtin.zeroCells z.cells n).toList) := by
  have hst := run_storeCells_cells (P := P) b o (Builtin.zeroCells z.cells n).toList 0 w (by simpa using hc) (by simpa using hf) h1
  simp only [Nat.add_zero] at hst
  obtain ⟨m, rfl⟩ : ∃ m, n = m + 1 := ⟨n - 1, by omega⟩
  simp [Builtin.clear_, run_underlying ht, hv, hst]

section
variable {α : Type} {d : Kd α} {e base g n cap : Nat} {ok : Nat → Prop} {w : World} {xs : List α}
theorem own_beyond {size : Nat} {cells : List Value} (h : w.ownsRow base e size (.slice (some ⟨g, 0, none⟩) n cap) n cells) (off : Nat) (ho : n * size ≤ off) (u : Value) : (w.setCell ⟨g, off, none⟩ u).ownsRow base e size (.slice (some ⟨g, 0, none⟩) n cap) n cells := by
  obtain ⟨hl, h2⟩ := h
  refine ⟨hl, .inr ?_⟩
  rcases h2 with ⟨h0, _⟩ | ⟨g', cap', cur, he, hg, hh, hnc, hm, hs, ht⟩
  · cases h0
  · injection he with h1 _ h3
    injection h1 with h1
    injection h1 with h1
    subst h1 h3
    refine ⟨g, cap, cur.setIfInBounds off u, rfl, hg, ?_, hnc, hm, by simpa using hs, ?_⟩
    · simp [World.setCell, Array.getElem?_modify, hh]
    · rw [← ht]
      apply List.ext_getElem?
      intro i
      by_cases hi : i < n * size
      · rw [List.getElem?_take_of_lt hi, List.getElem?_take_of_lt hi, Array.getElem?_toList, Array.getElem?_toList, Array.getElem?_setIfInBounds_ne (by omega)]
      · rw [List.getElem?_take_eq_none (by omega), List.getElem?_take_eq_none (by omega)]
theorem N_beyond (h : Kd.N d e w base ok (.slice (some ⟨g, 0, none⟩) n cap) xs) (off : Nat) (ho : n * d.sz ≤ off) (u : Value) : Kd.N d e (w.setCell ⟨g, off, none⟩ u) base ok (.slice (some ⟨g, 0, none⟩) n cap) xs := by
  have hn : n = xs.length := (Kd.N_reads' h).1
  obtain ⟨h0, rows, hl, ⟨hr0, inner, hown, hrep⟩, hf⟩ := h
  have hnr : n = rows.length := by omega
  rw [← hnr] at hown
  refine ⟨h0, rows, hl, ⟨hr0, inner, by rw [← hnr]; exact own_beyond hown off ho u, hrep⟩, fun j x c hx hc => Kd.FK_step (hf j x c hx hc) (fun k hk hlt => Below.heap_setCell w _ u k (fun he => hk.2 (by simp [Value.ownBlock, he])))⟩
theorem N_beyonds : ∀ (zs : List Value) (off : Nat) (w : World), Kd.N d e w base ok (.slice (some ⟨g, 0, none⟩) n cap) xs → n * d.sz ≤ off → Kd.N d e (w.setCells g off zs) base ok (.slice (some ⟨g, 0, none⟩) n cap) xs ∧ w.grownBy (w.setCells g off zs) (some g)
  | [], off, w, h, _ => ⟨h, ⟨rfl, rfl, rfl, Nat.le_refl _, fun _ _ _ => rfl⟩⟩
  | z :: zs, off, w, h, ho => by
    obtain ⟨h1, h2⟩ := N_beyonds zs (off + 1) (w.setCell ⟨g, off, none⟩ z) (N_beyond h off ho z) (by omega)
    have h3 : w.grownBy (w.setCell ⟨g, off, none⟩ z) (some g) := ⟨rfl, rfl, rfl, by simp [World.setCell], fun k hk hne => Below.heap_setCell w ⟨g, off, none⟩ z k (fun he => hne (by rw [he]))⟩
    exact ⟨h1, World.grownBy.trans h3 h2⟩
end
end Go.Proofs.Ytgfmplhpoblleaa.ClearRow
