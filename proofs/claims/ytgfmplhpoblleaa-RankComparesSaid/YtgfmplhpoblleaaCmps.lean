/- Comparers: what makes one an order; numbers, texts, one behind the other. -/
import Derived.Shelf.SlSortCmp.Insertion
namespace Go.Proofs.Ytgfmplhpoblleaa.Cmps
open Go.Sort Go.Proofs
set_option linter.unusedVariables false
set_option linter.unusedSimpArgs false

structure IsCmp {α : Type} (c : α → α → Int) : Prop where
  anti : ∀ x y, c y x = - c x y
  le : ∀ x y z, c x y ≤ 0 → c y z ≤ 0 → c x z ≤ 0
section
variable {α β : Type} {c : α → α → Int}
theorem IsCmp.refl (h : IsCmp c) (x : α) : c x x = 0 := by have := h.anti x x; omega
theorem IsCmp.lt_le (h : IsCmp c) (x y z : α) (h1 : c x y < 0) (h2 : c y z ≤ 0) : c x z < 0 := by
  rcases Int.lt_trichotomy (c x z) 0 with h3 | h3 | h3
  · exact h3
  · have h4 := h.anti x z
    have h5 := h.le y z x h2 (by omega)
    have h6 := h.anti x y
    omega
  · have := h.le x y z (by omega) h2
    omega
theorem IsCmp.le_lt (h : IsCmp c) (x y z : α) (h1 : c x y ≤ 0) (h2 : c y z < 0) : c x z < 0 := by
  rcases Int.lt_trichotomy (c x z) 0 with h3 | h3 | h3
  · exact h3
  · have h4 := h.anti x z
    have h5 := h.le z x y (by omega) h1
    have h6 := h.anti y z
    omega
  · have := h.le x y z h1 (by omega)
    omega
theorem IsCmp.eq_trans (h : IsCmp c) (x y z : α) (h1 : c x y = 0) (h2 : c y z = 0) : c x z = 0 := by
  have a := h.le x y z (by omega) (by omega)
  have b := h.le z y x (by have := h.anti y z; omega) (by have := h.anti x y; omega)
  have d := h.anti x z
  omega
theorem IsCmp.swo (h : IsCmp c) : SWO (ltOf c) := by
  refine ⟨fun x => ?_, fun x y z h1 h2 => ?_, fun x y z h1 h2 => ?_⟩
  · exact decide_eq_false (by have := h.refl x; omega)
  · exact decide_eq_true (h.lt_le x y z (of_decide_eq_true h1) (by have := of_decide_eq_true h2; omega))
  · refine decide_eq_false ?_
    have a := of_decide_eq_false h1
    have b := of_decide_eq_false h2
    have e1 := h.anti x y
    have e2 := h.anti y z
    have e3 := h.anti x z
    have := h.le z y x (by omega) (by omega)
    omega
theorem IsCmp.pull (h : IsCmp c) (f : β → α) : IsCmp (fun x y => c (f x) (f y)) := ⟨fun x y => h.anti _ _, fun x y z => h.le _ _ _⟩
theorem IsCmp.lex {d : α → α → Int} (h : IsCmp c) (k : IsCmp d) : IsCmp (fun x y => if c x y = 0 then d x y else c x y) := by
  refine ⟨fun x y => ?_, fun x y z h1 h2 => ?_⟩
  · have := h.anti x y
    by_cases h0 : c x y = 0
    · simp only [h0, if_true, show c y x = 0 by omega]; exact k.anti x y
    · simp only [h0, if_false, show ¬ c y x = 0 by omega]; omega
  · by_cases a : c x y = 0
    · simp only [a, if_true] at h1
      by_cases b : c y z = 0
      · simp only [b, if_true] at h2
        simp only [h.eq_trans x y z a b, if_true]
        exact k.le x y z h1 h2
      · simp only [b, if_false] at h2
        have := h.le_lt x y z (by omega) (by omega)
        simp only [show ¬ c x z = 0 by omega, if_false]; omega
    · simp only [a, if_false] at h1
      have hb : c y z ≤ 0 := by
        by_cases b : c y z = 0
        · omega
        · simp only [b, if_false] at h2; exact h2
      have := h.lt_le x y z (by omega) hb
      simp only [show ¬ c x z = 0 by omega, if_false]; omega
end

def cmpI (a b : Int) : Int := if a < b then -1 else if b < a then 1 else 0
def cmpL : List Int → List Int → Int
  | [], [] => 0
  | [], _ :: _ => -1
  | _ :: _, [] => 1
  | a :: l, b :: m => if a < b then -1 else if b < a then 1 else cmpL l m
def orI : List Int → Int
  | [] => 0
  | a :: l => if a = 0 then orI l else a

theorem cmpI_cmp : IsCmp cmpI := by
  refine ⟨fun x y => ?_, fun x y z h1 h2 => ?_⟩
  · unfold cmpI; split <;> split <;> omega
  · unfold cmpI at *
    split at h1 <;> split at h2 <;> split <;> (try split) <;> (try split at h1) <;> (try split at h2) <;> omega
theorem cmpI_eq {a b : Int} : cmpI a b = 0 ↔ a = b := by
  unfold cmpI; split
  · omega
  · split <;> omega
theorem cmpL_nil (l : List Int) : cmpL [] l ≤ 0 := by cases l <;> simp [cmpL]
theorem cmpL_le : ∀ x y z : List Int, cmpL x y ≤ 0 → cmpL y z ≤ 0 → cmpL x z ≤ 0
  | [], _, z, _, _ => cmpL_nil z
  | _ :: _, [], _, h1, _ => by simp [cmpL] at h1
  | _ :: _, _ :: _, [], _, h2 => by simp [cmpL] at h2
  | a :: x, b :: y, e :: z, h1, h2 => by
    simp only [cmpL] at h1 h2 ⊢
    by_cases ab : a < b
    · by_cases be : b < e
      · rw [if_pos (by omega)]; omega
      · rw [if_neg be] at h2
        by_cases eb : e < b
        · rw [if_pos eb] at h2; omega
        · rw [if_pos (by omega)]; omega
    · rw [if_neg ab] at h1
      by_cases ba : b < a
      · rw [if_pos ba] at h1; omega
      · rw [if_neg ba] at h1
        by_cases be : b < e
        · rw [if_pos (by omega)]; omega
        · rw [if_neg be] at h2
          by_cases eb : e < b
          · rw [if_pos eb] at h2; omega
          · rw [if_neg eb] at h2
            rw [if_neg (by omega), if_neg (by omega)]
            exact cmpL_le x y z h1 h2
theorem cmpL_anti : ∀ x y : List Int, cmpL y x = - cmpL x y
  | [], [] => rfl
  | [], _ :: _ => rfl
  | _ :: _, [] => rfl
  | a :: x, b :: y => by
    simp only [cmpL]
    by_cases ab : a < b
    · rw [if_neg (by omega), if_pos ab, if_pos ab]; rfl
    · by_cases ba : b < a
      · rw [if_pos ba, if_neg ab, if_pos ba]
      · rw [if_neg ba, if_neg ab, if_neg ab, if_neg ba]; exact cmpL_anti x y
theorem cmpL_cmp : IsCmp cmpL := ⟨cmpL_anti, cmpL_le⟩
theorem cmpL_eq : ∀ {x y : List Int}, cmpL x y = 0 ↔ x = y
  | [], [] => by simp [cmpL]
  | [], _ :: _ => by simp [cmpL]
  | _ :: _, [] => by simp [cmpL]
  | a :: x, b :: y => by
    simp only [cmpL]
    by_cases ab : a < b
    · rw [if_pos ab]; simp; omega
    · rw [if_neg ab]
      by_cases ba : b < a
      · rw [if_pos ba]; simp; omega
      · rw [if_neg ba, cmpL_eq]; simp; intro _; omega
theorem cmpL_vals : ∀ x y : List Int, cmpL x y = -1 ∨ cmpL x y = 0 ∨ cmpL x y = 1
  | [], [] => by simp [cmpL]
  | [], _ :: _ => by simp [cmpL]
  | _ :: _, [] => by simp [cmpL]
  | a :: x, b :: y => by
    simp only [cmpL]
    by_cases ab : a < b
    · rw [if_pos ab]; simp
    · rw [if_neg ab]
      by_cases ba : b < a
      · rw [if_pos ba]; simp
      · rw [if_neg ba]; exact cmpL_vals x y
/-- One behind the other: 'or' of the comparisons. -/
theorem or_cons {α : Type} {c : α → α → Int} {cs : α → α → List Int} (h : IsCmp c) (k : IsCmp (fun x y => orI (cs x y))) : IsCmp (fun x y => orI (c x y :: cs x y)) := h.lex k
theorem or_nil {α : Type} : IsCmp (fun _ _ : α => orI []) := ⟨fun _ _ => rfl, fun _ _ _ _ _ => Int.le_refl 0⟩
theorem or_zero : ∀ {l : List Int}, orI l = 0 ↔ ∀ a ∈ l, a = 0
  | [] => by simp [orI]
  | a :: l => by
    simp only [orI]
    by_cases h : a = 0
    · rw [if_pos h, or_zero]; simp [h]
    · rw [if_neg h]; simp [h]

/-! ### Lists in order -/
section
variable {α : Type} {c : α → α → Int}
/-- What stands alone, or first among its alike. -/
def keepFrom (c : α → α → Int) (p : α) : List α → List α
  | [] => []
  | x :: r => if c x p = 0 then keepFrom c x r else x :: keepFrom c x r
def dedup (c : α → α → Int) : List α → List α
  | [] => []
  | x :: r => x :: keepFrom c x r
theorem keepFrom_snoc (r : List α) : ∀ (p x : α), keepFrom c p (r ++ [x]) = if c x (r.getLastD p) = 0 then keepFrom c p r else keepFrom c p r ++ [x] := by
  induction r with
  | nil => intro p x; simp [keepFrom]
  | cons y r ih =>
    intro p x
    simp only [List.cons_append, keepFrom, List.getLastD_cons]
    by_cases h : c y p = 0
    · rw [if_pos h, if_pos h]; exact ih y x
    · rw [if_neg h, if_neg h, ih y x]
      by_cases h2 : c x (r.getLastD y) = 0
      · rw [if_pos h2, if_pos h2]
      · rw [if_neg h2, if_neg h2]; rfl
theorem dedup_snoc (xs : List α) (i : Nat) (hi : i + 1 < xs.length) : dedup c (xs.take (i + 2)) = if c xs[i + 1] xs[i] = 0 then dedup c (xs.take (i + 1)) else dedup c (xs.take (i + 1)) ++ [xs[i + 1]] := by
  cases xs with
  | nil => simp at hi
  | cons y r =>
    have hr : i < r.length := by simpa using hi
    have e : (y :: r).take (i + 2) = y :: (r.take i ++ [r[i]]) := by rw [List.take_succ_cons, List.take_succ_eq_append_getElem hr]
    have e2 : (y :: r).take (i + 1) = y :: r.take i := List.take_succ_cons
    rw [e, e2]
    simp only [dedup, keepFrom_snoc, List.getElem_cons_succ]
    have e3 : (r.take i).getLastD y = (y :: r)[i]'(by simp; omega) := by
      cases i with
      | zero => simp
      | succ i =>
        rw [List.getLastD_eq_getLast?, List.getLast?_eq_getElem?]
        simp only [List.length_take, List.getElem_cons_succ]
        rw [Nat.min_eq_left (by omega), Nat.add_sub_cancel, List.getElem?_take_of_lt (by omega), List.getElem?_eq_getElem (by omega)]
        rfl
    rw [e3]
    by_cases h : c r[i] ((y :: r)[i]'(by simp; omega)) = 0
    · rw [if_pos h, if_pos h]
    · rw [if_neg h, if_neg h]; rfl
theorem dedup_same (xs : List α) (i m : Nat) (h : i + (m + 1) < xs.length) (hc : c xs[i + (m + 1)] xs[i + m] = 0) : dedup c (xs.take (i + (m + 1 + 1))) = dedup c (xs.take (i + (m + 1))) := by
  have e := dedup_snoc (c := c) xs (i + m) (by omega)
  simp only [Nat.add_assoc] at e ⊢
  rw [if_pos hc] at e
  exact e
theorem dedup_more (xs : List α) (i m : Nat) (h : i + (m + 1) < xs.length) (hc : ¬ c xs[i + (m + 1)] xs[i + m] = 0) : dedup c (xs.take (i + (m + 1 + 1))) = dedup c (xs.take (i + (m + 1))) ++ [xs[i + (m + 1)]] := by
  have e := dedup_snoc (c := c) xs (i + m) (by omega)
  simp only [Nat.add_assoc] at e ⊢
  rw [if_neg hc] at e
  exact e
theorem keepFrom_mem (r : List α) : ∀ (p x : α), x ∈ keepFrom c p r → x ∈ r := by
  induction r with
  | nil => intro p x h; simp [keepFrom] at h
  | cons y r ih =>
    intro p x h
    simp only [keepFrom] at h
    split at h
    · exact List.mem_cons_of_mem _ (ih y x h)
    · rcases List.mem_cons.1 h with rfl | h
      · exact List.mem_cons_self
      · exact List.mem_cons_of_mem _ (ih y x h)
theorem dedup_mem {l : List α} {x : α} (h : x ∈ dedup c l) : x ∈ l := by
  cases l with
  | nil => simp [dedup] at h
  | cons y r =>
    rcases List.mem_cons.1 h with rfl | h
    · exact List.mem_cons_self
    · exact List.mem_cons_of_mem _ (keepFrom_mem r y x h)
/-- Where alike is one: what is kept is all, each once, rising. -/
theorem keepFrom_sorted (hc : IsCmp c) (he : ∀ x y, c x y = 0 → x = y) (r : List α) : ∀ p : α, (p :: r).Pairwise (fun a b => ¬ c b a < 0) → (p :: keepFrom c p r).Pairwise (fun a b => c a b < 0) ∧ ∀ x ∈ r, x ∈ p :: keepFrom c p r := by
  induction r with
  | nil => intro p _; simp [keepFrom]
  | cons y r ih =>
    intro p hp
    have hy := (List.pairwise_cons.1 hp).2
    have hpy := (List.pairwise_cons.1 hp).1 y List.mem_cons_self
    obtain ⟨h1, h2⟩ := ih y hy
    simp only [keepFrom]
    by_cases h : c y p = 0
    · have e := he _ _ h
      subst e
      rw [if_pos h]
      refine ⟨h1, fun x hx => ?_⟩
      rcases List.mem_cons.1 hx with rfl | hx
      · exact List.mem_cons_self
      · exact h2 x hx
    · rw [if_neg h]
      have hlt : c p y < 0 := by have := hc.anti p y; omega
      refine ⟨List.pairwise_cons.2 ⟨fun x hx => ?_, h1⟩, fun x hx => ?_⟩
      · rcases List.mem_cons.1 hx with rfl | hx
        · exact hlt
        · exact hc.lt_le _ _ _ hlt (by have := (List.pairwise_cons.1 h1).1 x hx; omega)
      · rcases List.mem_cons.1 hx with rfl | hx
        · exact List.mem_cons_of_mem _ List.mem_cons_self
        · exact List.mem_cons_of_mem _ (h2 x hx)
theorem dedup_sorted (hc : IsCmp c) (he : ∀ x y, c x y = 0 → x = y) {l : List α} (hl : l.Pairwise (fun a b => ¬ c b a < 0)) : (dedup c l).Pairwise (fun a b => c a b < 0) ∧ ∀ x, x ∈ dedup c l ↔ x ∈ l := by
  cases l with
  | nil => exact ⟨List.Pairwise.nil, fun x => Iff.rfl⟩
  | cons p r =>
    obtain ⟨h1, h2⟩ := keepFrom_sorted hc he r p hl
    refine ⟨h1, fun x => ⟨fun h => dedup_mem h, fun h => ?_⟩⟩
    rcases List.mem_cons.1 h with rfl | h
    · exact List.mem_cons_self
    · exact h2 x h
/-- A rising list is told by what is in it. -/
theorem rising_unique (hc : IsCmp c) : ∀ {l m : List α}, l.Pairwise (fun a b => c a b < 0) → m.Pairwise (fun a b => c a b < 0) → (∀ x, x ∈ l ↔ x ∈ m) → l = m
  | [], [], _, _, _ => rfl
  | [], b :: m, _, _, h => by have := (h b).2 List.mem_cons_self; cases this
  | a :: l, [], _, _, h => by have := (h a).1 List.mem_cons_self; cases this
  | a :: l, b :: m, h1, h2, h => by
    obtain ⟨a1, a2⟩ := List.pairwise_cons.1 h1
    obtain ⟨b1, b2⟩ := List.pairwise_cons.1 h2
    have irr : ∀ x, ¬ c x x < 0 := fun x => by have := hc.refl x; omega
    have hab : a = b := by
      rcases List.mem_cons.1 ((h a).1 List.mem_cons_self) with e | e
      · exact e
      · rcases List.mem_cons.1 ((h b).2 List.mem_cons_self) with e' | e'
        · exact e'.symm
        · have x1 := b1 a e
          have x2 := a1 b e'
          have := hc.lt_le a b a x2 (by omega)
          exact absurd this (irr a)
    subst hab
    congr 1
    refine rising_unique hc a2 b2 fun x => ⟨fun hx => ?_, fun hx => ?_⟩
    · rcases List.mem_cons.1 ((h x).1 (List.mem_cons_of_mem _ hx)) with e | e
      · subst e; exact absurd (a1 x hx) (irr x)
      · exact e
    · rcases List.mem_cons.1 ((h x).2 (List.mem_cons_of_mem _ hx)) with e | e
      · subst e; exact absurd (b1 x hx) (irr x)
      · exact e
end
end Go.Proofs.Ytgfmplhpoblleaa.Cmps
