/- What the row's reading of an argument says, kind by kind: the print's own forms (Kd.K, Kd.V) from 'DataW.trod'. -/
import Derived.Test.YtgfmplhpoblleaaDoorWMore
import Derived.Test.YtgfmplhpoblleaaDoorWMore
import Derived.Test.YtgfmplhpoblleaaDoorWMore
import Derived.Test.YtgfmplhpoblleaaDoorWMore
import Derived.Test.YtgfmplhpoblleaaDoorWMore
import Derived.Test.YtgfmplhpoblleaaDoorWMore
import Derived.Test.YtgfmplhpoblleaaDoorWMore
import Derived.Test.YtgfmplhpoblleaaDoorWMore
import Derived.Test.YtgfmplhpoblleaaDoorWMore
import Derived.Test.YtgfmplhpoblleaaDoorWMore
import Derived.Test.YtgfmplhpoblleaaDoorWMore
import Derived.Test.YtgfmplhpoblleaaDoorWMore
import Derived.Test.YtgfmplhpoblleaaDoorWMore
import Derived.Test.YtgfmplhpoblleaaDoorWMore
import Derived.Test.YtgfmplhpoblleaaDoorWMore
import Derived.Test.YtgfmplhpoblleaaDoorWMore
import Derived.Test.YtgfmplhpoblleaaDoorWMore
import Derived.Test.YtgfmplhpoblleaaDoorWMore
import Derived.Test.YtgfmplhpoblleaaDoorWMore
import Derived.Test.YtgfmplhpoblleaaDoorWMore
import Derived.Test.YtgfmplhpoblleaaDoorWMore
import Derived.Test.YtgfmplhpoblleaaDoorWMore
import Derived.WalkKit
import Derived.ProofKit
import Derived.OpenShut
import Derived.ShutString
import Derived.ChangeOld
import Derived.Below
import Derived.Carry
import Derived.SizedLaws
import Derived.ChangeArms
import Derived.ChangeSlices
namespace Go.Proofs.YtgfmplhpoblleaaDoor.OpenKd
open Go.ChangeShapes Go.WideShapes Go.ChangeAt Go.RowKit Go.Proofs.YtgfmplhpoblleaaDoorW.PrintWords
set_option linter.unusedVariables false
section
variable {H : Type} (enc : TypeId × Value → H) (P : Program) (w : World) (base : Nat) (spare : Nat → Bool) (held : Bool)
/-- Whatever reads as of type t is of the kind. -/
def Opn {α : Type} (d : Kd α) (Q : α → Prop) (t : TypeId) : Prop := ∀ fuel cs x, DataW.trod enc P w base spare held fuel t cs = some x → ∃ a, d.K w a cs ∧ Q a
/-- The same for a struct's fields from the cell off on. -/
def OpnF {α : Type} (d : Kd α) (Q : α → Prop) (fs : List Field) (off : Nat) : Prop := ∀ (fuel : Nat) (cs : List Value), (∀ f ∈ fs, ∃ x, DataW.trod enc P w base spare held fuel f.type ((cs.drop f.offset).take (P.cellsOf f.type)) = some x) → cs.length = off + d.sz → ∃ a, d.K w a (cs.drop off) ∧ Q a
end
section
variable {H : Type} {enc : TypeId × Value → H} {P : Program} {w : World} {base : Nat} {spare : Nat → Bool} {held : Bool}
theorem opn_int {t : TypeId} {k : IntKind} (ht : P.underlying t = some (.int k)) : Opn enc P w base spare held (Kd.int k) (fun n => (Lit.int k n).wf = true) t := by
  intro fuel cs x h
  obtain ⟨m, rfl, rfl, hw⟩ := DataW.trod_int ht h
  exact ⟨m, rfl, hw⟩
theorem opn_bool {t : TypeId} (ht : P.underlying t = some .bool) : Opn enc P w base spare held Kd.bool (fun _ => True) t := by
  intro fuel cs x h
  cases fuel with
  | zero => simp [DataW.trod] at h
  | succ n =>
    unfold DataW.trod at h
    rw [ht] at h
    split at h <;> simp_all
    rename_i b
    cases b
    · exact .inl rfl
    · exact .inr rfl
theorem opn_string {t : TypeId} (ht : P.underlying t = some .string) : Opn enc P w base spare held Kd.string (fun s => s.size ≤ maxLen) t := by
  intro fuel cs x h
  cases fuel with
  | zero => simp [DataW.trod] at h
  | succ n =>
    unfold DataW.trod at h
    rw [ht] at h
    split at h <;> simp_all
    exact ⟨_, rfl, h.1⟩
/-- Each of a row's elements, chosen. -/
theorem choose_row {α : Type} {R : Nat → α → Prop} : ∀ n, (∀ i, i < n → ∃ a, R i a) → ∃ l : List α, l.length = n ∧ ∀ i a, l[i]? = some a → R i a
  | 0, _ => ⟨[], rfl, fun i a h => by simp at h⟩
  | n + 1, h => by
    obtain ⟨l, hl, hr⟩ := choose_row n (fun i hi => h i (by omega))
    obtain ⟨a, ha⟩ := h n (by omega)
    refine ⟨l ++ [a], by simp [hl], fun i b hb => ?_⟩
    rcases Nat.lt_or_ge i n with hi | hi
    · rw [List.getElem?_append_left (by omega)] at hb
      exact hr i b hb
    · rw [List.getElem?_append_right (by omega), hl] at hb
      have : i = n := by
        rcases Nat.lt_or_ge (i - n) 1 with h1 | h1
        · omega
        · rw [List.getElem?_eq_none (by simpa using h1)] at hb; cases hb
      subst this
      simp at hb
      subst hb
      exact ha
theorem add_add (a : Addr) (i j : Nat) : w.cell? ((a.add i).add j) = w.cell? (a.add (i + j)) := by
  unfold Addr.add
  by_cases h1 : i = 0
  · subst h1; simp
  · by_cases h2 : j = 0
    · subst h2; simp
    · simp [h1, h2, Nat.add_assoc]
theorem opn_slice {α : Type} {d : Kd α} {Q : α → Prop} {t e : TypeId} (e0 : Nat) (ht : P.underlying t = some (.slice e)) (hsz : P.cellsOf e = d.sz) (h : Opn enc P w base spare held d Q e) :
    Opn enc P w base spare held (Kd.slice e0 d) (fun l => l.length ≤ maxLen ∧ ∀ x ∈ l, Q x) t := by
  intro fuel cs x hx
  rcases DataW.trod_slice ht hx with ⟨rfl, -⟩ | ⟨a, len, cap, elems, rest, n, -, rfl, -, -, hl, hm, hlen, hel, -⟩
  · exact ⟨[], ⟨none, 0, rfl, Nat.le_refl _, Kd.C_nil d w⟩, by simp, by simp⟩
  · have each : ∀ i, i < len → ∃ y : α, (∃ c, c.length = d.sz ∧ d.K w y c ∧ ∀ j u, c[j]? = some u → w.cell? (a.add (i * d.sz + j)) = some u) ∧ Q y := by
      intro i hi
      have h1 := hel i hi
      rw [List.getElem?_eq_getElem (by omega), Option.bind_eq_some_iff] at h1
      obtain ⟨c, hc, hc2⟩ := h1
      obtain ⟨y, hy, hq⟩ := h n c _ hc2
      refine ⟨y, ⟨c, d.K_len hy, hy, fun j u hj => ?_⟩, hq⟩
      obtain ⟨-, hcl, hcell⟩ := World.cells?_some hc
      have hjl := (List.getElem?_eq_some_iff.1 hj).1
      have := hcell j (by omega)
      rw [add_add, hsz] at this
      rw [this, hj]
    obtain ⟨l, hll, hlr⟩ := choose_row len each
    refine ⟨l, ⟨some a, cap, by rw [hll], by omega, by rw [hll]; exact ⟨hll, by unfold maxLen at hm; omega, fun _ => ⟨a, rfl, fun j p hj => (hlr j p hj).1⟩⟩⟩, by omega, fun y hy => ?_⟩
    obtain ⟨j, hj⟩ := List.getElem?_of_mem hy
    exact (hlr j y hj).2
theorem opn_iso {α β : Type} {d : Kd α} {Q : α → Prop} {t : TypeId} (f : β → α) (g : α → β) (hg : ∀ a, f (g a) = a) (h : Opn enc P w base spare held d Q t) : Opn enc P w base spare held (Kd.iso d f) (fun b => Q (f b)) t := by
  intro fuel cs x hx
  obtain ⟨a, ha, hq⟩ := h fuel cs x hx
  exact ⟨g a, by show d.K w (f (g a)) cs; rw [hg]; exact ha, by show Q (f (g a)); rw [hg]; exact hq⟩
theorem opnF_one {α : Type} {d : Kd α} {Q : α → Prop} {f : Field} {off : Nat} (ho : f.offset = off) (hsz : P.cellsOf f.type = d.sz) (h : Opn enc P w base spare held d Q f.type) : OpnF enc P w base spare held d Q [f] off := by
  intro fuel cs hx hl
  obtain ⟨x, hx⟩ := hx f (by simp)
  obtain ⟨a, ha, hq⟩ := h fuel _ x hx
  refine ⟨a, ?_, hq⟩
  rw [ho, hsz, List.take_of_length_le (by simp; omega)] at ha
  exact ha
theorem opnF_cons {α β : Type} {d : Kd α} {d' : Kd β} {Q : α → Prop} {Q' : β → Prop} {f : Field} {fs : List Field} {off : Nat} (ho : f.offset = off) (hsz : P.cellsOf f.type = d.sz) (h : Opn enc P w base spare held d Q f.type)
    (h' : OpnF enc P w base spare held d' Q' fs (off + d.sz)) : OpnF enc P w base spare held (Kd.pair d d') (fun p => Q p.1 ∧ Q' p.2) (f :: fs) off := by
  intro fuel cs hx hl
  have hl' : cs.length = off + (d.sz + d'.sz) := hl
  obtain ⟨x, hx0⟩ := hx f (by simp)
  obtain ⟨a, ha, hq⟩ := h fuel _ x hx0
  obtain ⟨b, hb, hq'⟩ := h' fuel cs (fun g hg => hx g (by simp [hg])) (by omega)
  refine ⟨(a, b), ⟨(cs.drop off).take d.sz, (cs.drop off).drop d.sz, (List.take_append_drop _ _).symm, ?_, ?_⟩, hq, hq'⟩
  · rw [ho, hsz] at ha; exact ha
  · rw [List.drop_drop]; exact hb
theorem opn_struct {α : Type} {d : Kd α} {Q : α → Prop} {t : TypeId} {fs : Array Field} (ht : P.underlying t = some (.struct fs)) (hsz : P.cellsOf t = d.sz) (h : OpnF enc P w base spare held d Q fs.toList 0) : Opn enc P w base spare held d Q t := by
  intro fuel cs x hx
  obtain ⟨xs, n, -, -, hl, hls, hf⟩ := DataW.trod_struct ht hx
  obtain ⟨a, ha, hq⟩ := h n cs (fun f hm => by
    obtain ⟨i, hi⟩ := List.getElem?_of_mem hm
    have hi2 : fs[i]? = some f := by simpa using hi
    have := hf i f hi2
    have hlt : i < xs.length := by have := (Array.getElem?_eq_some_iff.1 hi2).1; omega
    rw [List.getElem?_eq_getElem hlt] at this
    exact ⟨_, this⟩) (by omega)
  exact ⟨a, by simpa using ha, hq⟩
/-- A slice, as a walk that asks for its reading alone wants it. -/
theorem Opn.C {α : Type} {d : Kd α} {Q : List α → Prop} {t : TypeId} {v : Value} {x : DataW H} {ps : List MemPlace} (e0 : Nat) (h : Opn enc P w base spare held (Kd.slice e0 d) Q t) (hv : v.cells.toList = [v])
    (hx : DataW.Trod enc P w base spare held t v x ps) : ∃ A c l, v = .slice A l.length c ∧ Q l ∧ l.length ≤ c ∧ Kd.C d w A l.length l := by
  obtain ⟨fuel, hx⟩ := hx
  rw [hv] at hx
  obtain ⟨l, ⟨A, c, he, hl, hC⟩, hq⟩ := h _ _ _ hx
  injection he with he
  exact ⟨A, c, l, he, hq, hl, hC⟩
/-- A slice, as the walk of a law wants it. -/
theorem Opn.V {α : Type} {d : Kd α} {Q : List α → Prop} {t : TypeId} {v : Value} {x : DataW H} {ps : List MemPlace} (e0 : Nat) (hd : Kd.Heap d) (h : Opn enc P w base spare held (Kd.slice e0 d) Q t) (hv : v.cells.toList = [v])
    (hx : DataW.Trod enc P w base spare held t v x ps) : ∃ A c l, v = .slice A l.length c ∧ Q l ∧ Kd.V d e0 w w.heap.size (fun _ => True) (.slice A l.length c) l := by
  obtain ⟨fuel, hx⟩ := hx
  rw [hv] at hx
  obtain ⟨l, ⟨A, c, he, hl, hC⟩, hq⟩ := h _ _ _ hx
  injection he with he
  exact ⟨A, c, l, he, hq, Kd.V_mk hl (fun W' hW => hd.C (fun k hk => hW k trivial hk) hC)⟩
end
end Go.Proofs.YtgfmplhpoblleaaDoor.OpenKd
