/- OpenKd. -/
import Derived.Test.YtgfmplhpoblleaaFK1
import Derived.Test.YtgfmplhpoblleaaFK2
import Derived.Test.YtgfmplhpoblleaaFK3
import Derived.Test.YtgfmplhpoblleaaRows
import Derived.WalkKit
import Derived.ProofKit
import Derived.OpenShut
import Derived.ShutString
import Derived.ChangeOld
import Derived.Below
import Derived.Carry
import Derived.SizedLaws
import Derived.ChangeArms
import Derived.ChangeSlices
section
/- What the row's reading of an argument says, kind by kind: the print's own forms (Kd.K, Kd.V) from 'DataW.trod'. -/
namespace Go.Proofs.Ytgfmplhpoblleaa.OpenKd
open Go.ChangeShapes Go.WideShapes Go.ChangeAt Go.RowKit Go.Proofs.YtgfmplhpoblleaaW.PrintWords
set_option linter.unusedVariables false
section
variable {H : Type} (enc : TypeId × Value → H) (P : Program) (w : World) (base : Nat) (spare : Nat → Bool) (held : Bool)
/-- Whatever reads as of type t is of the kind. -/
def Opn {α : Type} (d : Kd α) (Q : α → Prop) (t : TypeId) : Prop := ∀ fuel cs x, DataW.trod enc P w base spare held fuel t cs = some x → ∃ a, d.K w a cs ∧ Q a
/-- The same for a struct's fields from the cell off on. -/
def OpnF {α : Type} (d : Kd α) (Q : α → Prop) (fs : List Field) (off : Nat) : Prop := ∀ (fuel : Nat) (cs : List Value), (∀ f ∈ fs, ∃ x, DataW.trod enc P w base spare held fuel f.type ((cs.drop f.offset).take (P.cellsOf f.type)) = some x) → cs.length = off + d.sz → ∃ a, d.K w a (cs.drop off) ∧ Q a
end
section
variable {H : Type} {enc : TypeId × Value → H} {P : Program} {w : World} {base : Nat} {spare : Nat → Bool} {held : Bool}
theorem opn_int {t : TypeId} {k : IntKind} (ht : P.underlying t = some (.int k)) : Opn enc P w base spare held (Kd.int k) (fun n => (Lit.int k n).wf = true) t := by
  intro fuel cs x h
  obtain ⟨m, rfl, rfl, hw⟩ := DataW.trod_int ht h
  exact ⟨m, rfl, hw⟩
/-- Each of a row's elements, chosen. -/
theorem choose_row {α : Type} {R : Nat → α → Prop} : ∀ n, (∀ i, i < n → ∃ a, R i a) → ∃ l : List α, l.length = n ∧ ∀ i a, l[i]? = some a → R i a
  | 0, _ => ⟨[], rfl, fun i a h => by simp at h⟩
  | n + 1, h => by
    obtain ⟨l, hl, hr⟩ := choose_row n (fun i hi => h i (by omega))
    obtain ⟨a, ha⟩ := h n (by omega)
    refine ⟨l ++ [a], by simp [hl], fun i b hb => ?_⟩
    rcases Nat.lt_or_ge i n with hi | hi
    · rw [List.getElem?_append_left (by omega)] at hb
      exact hr i b hb
    · rw [List.getElem?_append_right (by omega), hl] at hb
      have : i = n := by
        rcases Nat.lt_or_ge (i - n) 1 with h1 | h1
        · omega
        · rw [List.getElem?_eq_none (by simpa using h1)] at hb; cases hb
      subst this
      simp at hb
      subst hb
      exact ha
theorem add_add (a : Addr) (i j : Nat) : w.cell? ((a.add i).add j) = w.cell? (a.add (i + j)) := by
  unfold Addr.add
  by_cases h1 : i = 0
  · subst h1; simp
  · by_cases h2 : j = 0
    · subst h2; simp
    · simp [h1, h2, Nat.add_assoc]
theorem opn_slice {α : Type} {d : Kd α} {Q : α → Prop} {t e : TypeId} (e0 : Nat) (ht : P.underlying t = some (.slice e)) (hsz : P.cellsOf e = d.sz) (h : Opn enc P w base spare held d Q e) :
    Opn enc P w base spare held (Kd.slice e0 d) (fun l => l.length ≤ maxLen ∧ ∀ x ∈ l, Q x) t := by
  intro fuel cs x hx
  rcases DataW.trod_slice ht hx with ⟨rfl, -⟩ | ⟨a, len, cap, elems, rest, n, -, rfl, -, -, hl, hm, hlen, hel, -⟩
  · exact ⟨[], ⟨none, 0, rfl, Nat.le_refl _, Kd.C_nil d w⟩, by simp, by simp⟩
  · have each : ∀ i, i < len → ∃ y : α, (∃ c, c.length = d.sz ∧ d.K w y c ∧ ∀ j u, c[j]? = some u → w.cell? (a.add (i * d.sz + j)) = some u) ∧ Q y := by
      intro i hi
      have h1 := hel i hi
      rw [List.getElem?_eq_getElem (by omega), Option.bind_eq_some_iff] at h1
      obtain ⟨c, hc, hc2⟩ := h1
      obtain ⟨y, hy, hq⟩ := h n c _ hc2
      refine ⟨y, ⟨c, d.K_len hy, hy, fun j u hj => ?_⟩, hq⟩
      obtain ⟨-, hcl, hcell⟩ := World.cells?_some hc
      have hjl := (List.getElem?_eq_some_iff.1 hj).1
      have := hcell j (by omega)
      rw [add_add, hsz] at this
      rw [this, hj]
    obtain ⟨l, hll, hlr⟩ := choose_row len each
    refine ⟨l, ⟨some a, cap, by rw [hll], by omega, by rw [hll]; exact ⟨hll, by unfold maxLen at hm; omega, fun _ => ⟨a, rfl, fun j p hj => (hlr j p hj).1⟩⟩⟩, by omega, fun y hy => ?_⟩
    obtain ⟨j, hj⟩ := List.getElem?_of_mem hy
    exact (hlr j y hj).2
/-- A slice, as the walk of a law wants it. -/
theorem Opn.V {α : Type} {d : Kd α} {Q : List α → Prop} {t : TypeId} {v : Value} {x : DataW H} {ps : List MemPlace} (e0 : Nat) (hd : Kd.Heap d) (h : Opn enc P w base spare held (Kd.slice e0 d) Q t) (hv : v.cells.toList = [v])
    (hx : DataW.Trod enc P w base spare held t v x ps) : ∃ A c l, v = .slice A l.length c ∧ Q l ∧ Kd.V d e0 w w.heap.size (fun _ => True) (.slice A l.length c) l := by
  obtain ⟨fuel, hx⟩ := hx
  rw [hv] at hx
  obtain ⟨l, ⟨A, c, he, hl, hC⟩, hq⟩ := h _ _ _ hx
  injection he with he
  exact ⟨A, c, l, he, hq, Kd.V_mk hl (fun W' hW => hd.C (fun k hk => hW k trivial hk) hC)⟩
end
end Go.Proofs.Ytgfmplhpoblleaa.OpenKd
end
