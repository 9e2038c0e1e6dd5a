/- SrtP, SrtS, SrtT, SrtU, SrtV1, SrtV2, SrtX. -/
import Derived.Test.YtgfmplhpoblleaaMB5
import Derived.Deep.RegionHeld3
import Derived.Deep.DeepCutAuto
import Derived.BigRegion
import Derived.Deep.QuietTactic
import Derived.BigQuiet
import Derived.Deep.CutBlock
section
/- Sorting by swaps and merges in place, in plain lists. -/
namespace Go.Proofs.Ytgfmplhpoblleaa.FailW
set_option linter.unusedVariables false
set_option linter.unusedSimpArgs false

def swapL (l : List Int) (i j : Nat) : List Int := (l.set i (l.getD j 0)).set j (l.getD i 0)
theorem swapL_eq (l : List Int) (i j : Nat) (hi : i < l.length) (hj : j < l.length) : swapL l i j = (l.set i l[j]).set j l[i] := by
  unfold swapL
  rw [List.getD_eq_getElem?_getD, List.getD_eq_getElem?_getD, List.getElem?_eq_getElem hi, List.getElem?_eq_getElem hj]; rfl
theorem swapL_len (l : List Int) (i j : Nat) : (swapL l i j).length = l.length := by simp [swapL]
theorem swapL_perm (l : List Int) (i j : Nat) (hi : i < l.length) (hj : j < l.length) : (swapL l i j).Perm l := by
  have h := List.set_set_perm hi hj
  unfold swapL
  rw [List.getD_eq_getElem?_getD, List.getD_eq_getElem?_getD, List.getElem?_eq_getElem hi, List.getElem?_eq_getElem hj]
  exact h
theorem swapL_get (l : List Int) (i j : Nat) (hi : i < l.length) (hj : j < l.length) (t : Nat) : (swapL l i j)[t]? = if t = j then l[i]? else if t = i then l[j]? else l[t]? := by
  rw [swapL_eq l i j hi hj]
  by_cases h1 : t = j
  · subst h1
    rw [if_pos rfl, List.getElem?_set_self (by simpa using hj), List.getElem?_eq_getElem hi]
  · rw [if_neg h1, List.getElem?_set_ne (fun e => h1 e.symm)]
    by_cases h2 : t = i
    · subst h2
      rw [if_pos rfl, List.getElem?_set_self hi, List.getElem?_eq_getElem hj]
    · rw [if_neg h2, List.getElem?_set_ne (fun e => h2 e.symm)]
/-- An order by comparisons, over the numbers that are meant. -/
structure OrdC (P : Int → Prop) (c : Int → Int → Int) : Prop where
  asym : ∀ u v, P u → P v → c u v < 0 → ¬ c v u < 0
  trans : ∀ u v t, P u → P v → P t → ¬ c v u < 0 → ¬ c t v < 0 → ¬ c t u < 0
def Le (c : Int → Int → Int) (u v : Int) : Prop := ¬ c v u < 0
def Srtd (c : Int → Int → Int) (l : List Int) : Prop := l.Pairwise (Le c)
section
variable {P : Int → Prop} {c : Int → Int → Int}
theorem OrdC.le (h : OrdC P c) {u v : Int} (hu : P u) (hv : P v) (hl : c u v < 0) : Le c u v := h.asym u v hu hv hl
theorem OrdC.tr (h : OrdC P c) {u v t : Int} (hu : P u) (hv : P v) (ht : P t) (h1 : Le c u v) (h2 : Le c v t) : Le c u t := h.trans u v t hu hv ht h1 h2
end
set_option maxHeartbeats 1000000 in
theorem swap_app (A : List Int) (x y : Int) (S : List Int) : swapL (A ++ x :: y :: S) A.length (A.length + 1) = A ++ y :: x :: S := by
  apply List.ext_getElem?
  intro t
  rw [swapL_get _ _ _ (by simp) (by simp)]
  simp only [List.getElem?_append, List.getElem?_cons]
  repeat' split
  all_goals first | rfl | omega | simp_all
theorem swap_app' (A : List Int) (x y : Int) (S : List Int) : swapL (A ++ x :: y :: S) (A.length + 1) A.length = A ++ y :: x :: S := by
  apply List.ext_getElem?
  intro t
  rw [swapL_get _ _ _ (by simp) (by simp)]
  simp only [List.getElem?_append, List.getElem?_cons]
  repeat' split
  all_goals first | rfl | omega | simp_all
/-- Two stretches are changed for one another, step by step. -/
def swr (xs : List Int) (a b : Nat) : Nat → List Int
  | 0 => xs
  | k + 1 => swapL (swr xs a b k) (a + k) (b + k)
theorem swr_len (xs : List Int) (a b : Nat) : ∀ k, (swr xs a b k).length = xs.length
  | 0 => rfl
  | k + 1 => by rw [swr, swapL_len, swr_len]
theorem swr_get (xs : List Int) (a b : Nat) : ∀ (k t : Nat), a + k ≤ b → b + k ≤ xs.length → (swr xs a b k)[t]? = if a ≤ t ∧ t < a + k then xs[t - a + b]? else if b ≤ t ∧ t < b + k then xs[t - b + a]? else xs[t]?
  | 0, t, h1, h2 => by rw [swr, if_neg (by omega), if_neg (by omega)]
  | k + 1, t, h1, h2 => by
    rw [swr, swapL_get _ _ _ (by rw [swr_len]; omega) (by rw [swr_len]; omega)]
    by_cases e1 : t = b + k
    · subst e1
      rw [if_pos rfl, swr_get xs a b k (a + k) (by omega) (by omega), if_neg (by omega), if_neg (by omega), if_neg (by omega), if_pos (by omega)]
      congr 1; omega
    · rw [if_neg e1]
      by_cases e2 : t = a + k
      · subst e2
        rw [if_pos rfl, swr_get xs a b k (b + k) (by omega) (by omega), if_neg (by omega), if_neg (by omega), if_pos (by omega)]
        congr 1; omega
      · rw [if_neg e2, swr_get xs a b k t (by omega) (by omega)]
        by_cases e3 : a ≤ t ∧ t < a + k
        · rw [if_pos e3, if_pos (by omega)]
        · rw [if_neg e3, if_neg (show ¬ (a ≤ t ∧ t < a + (k + 1)) by omega)]
          by_cases e4 : b ≤ t ∧ t < b + k
          · rw [if_pos e4, if_pos (show b ≤ t ∧ t < b + (k + 1) by omega)]
          · rw [if_neg e4, if_neg (show ¬ (b ≤ t ∧ t < b + (k + 1)) by omega)]
theorem swr_app (A X Q Y T : List Int) (h : X.length = Y.length) : swr (A ++ (X ++ (Q ++ (Y ++ T)))) A.length (A.length + X.length + Q.length) X.length = A ++ (Y ++ (Q ++ (X ++ T))) := by
  apply List.ext_getElem?
  intro t
  rw [swr_get _ _ _ _ _ (by omega) (by simp; omega)]
  by_cases e1 : t < A.length
  · rw [if_neg (by omega), if_neg (by omega), List.getElem?_append_left e1, List.getElem?_append_left e1]
  · rw [List.getElem?_append_right (l₁ := A) (l₂ := Y ++ (Q ++ (X ++ T))) (by omega)]
    by_cases e2 : t < A.length + X.length
    · rw [if_pos (by omega), List.getElem?_append_right (by omega), List.getElem?_append_right (by omega), List.getElem?_append_right (by omega), List.getElem?_append_left (by omega), List.getElem?_append_left (by omega)]
      congr 1; omega
    · rw [if_neg (by omega), List.getElem?_append_right (l₁ := Y) (by omega)]
      by_cases e3 : t < A.length + X.length + Q.length
      · rw [if_neg (by omega), List.getElem?_append_right (by omega), List.getElem?_append_right (by omega), List.getElem?_append_left (by omega), List.getElem?_append_left (by omega)]
        congr 1; omega
      · rw [List.getElem?_append_right (l₁ := Q) (by omega)]
        by_cases e4 : t < A.length + X.length + Q.length + X.length
        · rw [if_pos (by omega), List.getElem?_append_right (by omega), List.getElem?_append_left (by omega), List.getElem?_append_left (by omega)]
          congr 1; omega
        · rw [if_neg (by omega), List.getElem?_append_right (by omega), List.getElem?_append_right (by omega), List.getElem?_append_right (by omega), List.getElem?_append_right (by omega), List.getElem?_append_right (by omega)]
          congr 1; omega
/-- What insertion's inner round keeps: position j is being moved down. -/
structure InsI (c : Int → Int → Int) (zs : List Int) (a i j : Nat) : Prop where
  rest : ∀ p q u v, a ≤ p → p < q → q ≤ i → p ≠ j → q ≠ j → zs[p]? = some u → zs[q]? = some v → Le c u v
  up : ∀ q u v, j < q → q ≤ i → zs[j]? = some u → zs[q]? = some v → Le c u v
/-- Sorted from a up to b. -/
def SegS (c : Int → Int → Int) (zs : List Int) (a b : Nat) : Prop := ∀ p q u v, a ≤ p → p < q → q < b → zs[p]? = some u → zs[q]? = some v → Le c u v
/-- Unlike xs from a up to b alone. -/
def OutS (xs ys : List Int) (a b : Nat) : Prop := ∀ p, p < a ∨ b ≤ p → ys[p]? = xs[p]?
section
variable {P : Int → Prop} {c : Int → Int → Int}
theorem SegS.ins {zs : List Int} {a i : Nat} (h : SegS c zs a i) : InsI c zs a i i :=
  ⟨fun p q u v h1 h2 h3 h4 h5 hu hv => h p q u v h1 h2 (by omega) hu hv, fun q u v h1 h2 => by omega⟩
theorem InsI.swap (hc : OrdC P c) {zs : List Int} {a i m : Nat} (h : InsI c zs a i (m + 1)) (hP : ∀ u ∈ zs, P u) (ha : a ≤ m) (hi : i < zs.length) (hm : m + 1 ≤ i) (hl : c (zs[m + 1]'(by omega)) (zs[m]'(by omega)) < 0) : InsI c (swapL zs (m + 1) m) a i m := by
  have g := swapL_get zs (m + 1) m (by omega) (by omega)
  constructor
  · intro p q u v h1 h2 h3 h4 h5 hu hv
    rw [g, if_neg h4] at hu
    rw [g, if_neg h5] at hv
    by_cases e1 : p = m + 1
    · rw [if_pos e1] at hu
      rw [if_neg (by omega)] at hv
      exact h.rest m q u v ha (by omega) h3 (by omega) (by omega) hu hv
    · rw [if_neg e1] at hu
      by_cases e2 : q = m + 1
      · rw [if_pos e2] at hv
        exact h.rest p m u v h1 (by omega) (by omega) e1 (by omega) hu hv
      · rw [if_neg e2] at hv
        exact h.rest p q u v h1 h2 h3 e1 e2 hu hv
  · intro q u v h1 h2 hu hv
    rw [g, if_pos rfl] at hu
    rw [g, if_neg (by omega)] at hv
    by_cases e1 : q = m + 1
    · rw [if_pos e1] at hv
      rw [List.getElem?_eq_getElem (by omega)] at hu hv
      obtain rfl := Option.some.inj hu
      obtain rfl := Option.some.inj hv
      exact hc.le (hP _ (List.getElem_mem _)) (hP _ (List.getElem_mem _)) hl
    · rw [if_neg e1] at hv
      exact h.up q u v (by omega) h2 hu hv
theorem InsI.low {zs : List Int} {a i : Nat} (h : InsI c zs a i a) : SegS c zs a (i + 1) := by
  intro p q u v h1 h2 h3 hu hv
  by_cases e : p = a
  · subst e; exact h.up q u v h2 (by omega) hu hv
  · exact h.rest p q u v h1 h2 (by omega) e (by omega) hu hv
theorem InsI.done (hc : OrdC P c) {zs : List Int} {a i m : Nat} (h : InsI c zs a i (m + 1)) (hP : ∀ u ∈ zs, P u) (ha : a ≤ m) (hi : i < zs.length) (hm : m + 1 ≤ i) (hl : ¬ c (zs[m + 1]'(by omega)) (zs[m]'(by omega)) < 0) : SegS c zs a (i + 1) := by
  intro p q u v h1 h2 h3 hu hv
  by_cases e1 : p = m + 1
  · subst e1; exact h.up q u v h2 (by omega) hu hv
  · by_cases e2 : q = m + 1
    · subst e2
      have hm1 : zs[m + 1]? = some (zs[m + 1]'(by omega)) := List.getElem?_eq_getElem _
      have hm0 : zs[m]? = some (zs[m]'(by omega)) := List.getElem?_eq_getElem _
      have ev : v = zs[m + 1]'(by omega) := Option.some.inj (hv.symm.trans hm1)
      subst ev
      by_cases e3 : p = m
      · subst e3
        have eu : u = zs[p]'(by omega) := Option.some.inj (hu.symm.trans hm0)
        subst eu
        exact hl
      · have := h.rest p m u _ h1 (by omega) (by omega) e1 (by omega) hu hm0
        exact hc.tr (hP u (List.mem_of_getElem? hu)) (hP _ (List.getElem_mem _)) (hP _ (List.getElem_mem _)) this hl
    · exact h.rest p q u v h1 h2 (by omega) e1 e2 hu hv
theorem OutS.refl (xs : List Int) (a b : Nat) : OutS xs xs a b := fun _ _ => rfl
theorem OutS.swap {xs ys : List Int} {a b i j : Nat} (h : OutS xs ys a b) (hi : i < ys.length) (hj : j < ys.length) (h1 : a ≤ i ∧ i < b) (h2 : a ≤ j ∧ j < b) : OutS xs (swapL ys i j) a b := by
  intro p hp
  rw [swapL_get _ _ _ hi hj, if_neg (by omega), if_neg (by omega)]
  exact h p hp
end
theorem seg_parts {c : Int → Int → Int} {A M T : List Int} (h : SegS c (A ++ (M ++ T)) A.length (A.length + M.length)) : Srtd c M := by
  unfold Srtd
  rw [List.pairwise_iff_getElem]
  intro i j hi hj hlt
  refine h (A.length + i) (A.length + j) _ _ (by omega) (by omega) (by omega) ?_ ?_
  · rw [List.getElem?_append_right (by omega), Nat.add_sub_cancel_left, List.getElem?_append_left hi, List.getElem?_eq_getElem hi]
  · rw [List.getElem?_append_right (by omega), Nat.add_sub_cancel_left, List.getElem?_append_left hj, List.getElem?_eq_getElem hj]
/-- Where the two halves are cut. -/
theorem sym_split {P : Int → Prop} {c : Int → Int → Int} (hc : OrdC P c) {A L R T : List Int} (hP : ∀ u ∈ A ++ (L ++ (R ++ T)), P u) (hL : Srtd c L) (hR : Srtd c R) {st en : Nat} (h1 : A.length ≤ st) (h2 : st ≤ A.length + L.length) (h3 : A.length + L.length ≤ en) (h4 : en ≤ A.length + L.length + R.length)
    (ha : A.length < st → en < A.length + L.length + R.length → ∀ u v, (A ++ (L ++ (R ++ T)))[st - 1]? = some u → (A ++ (L ++ (R ++ T)))[en]? = some v → Le c u v)
    (hb : st < A.length + L.length → A.length + L.length < en → ∀ u v, (A ++ (L ++ (R ++ T)))[en - 1]? = some u → (A ++ (L ++ (R ++ T)))[st]? = some v → Le c u v) :
    ∃ L1 L2 R1 R2, L = L1 ++ L2 ∧ R = R1 ++ R2 ∧ A.length + L1.length = st ∧ A.length + L.length + R1.length = en ∧ (∀ u ∈ L1, ∀ v ∈ R2, Le c u v) ∧ ∀ u ∈ R1, ∀ v ∈ L2, Le c u v := by
  obtain ⟨s, rfl⟩ : ∃ s, st = A.length + s := ⟨st - A.length, by omega⟩
  obtain ⟨e, rfl⟩ : ∃ e, en = A.length + L.length + e := ⟨en - (A.length + L.length), by omega⟩
  have atL : ∀ i, i < L.length → (A ++ (L ++ (R ++ T)))[A.length + i]? = L[i]? := fun i hi => by
    rw [List.getElem?_append_right (by omega), Nat.add_sub_cancel_left, List.getElem?_append_left hi]
  have atR : ∀ i, i < R.length → (A ++ (L ++ (R ++ T)))[A.length + L.length + i]? = R[i]? := fun i hi => by
    rw [List.getElem?_append_right (by omega), List.getElem?_append_right (by omega), List.getElem?_append_left (by omega)]
    congr 1; omega
  have pL : ∀ u ∈ L, P u := fun u hu => hP u (by simp [hu])
  have pR : ∀ u ∈ R, P u := fun u hu => hP u (by simp [hu])
  have sL : ∀ (i j : Nat) (hj : j < L.length) (hi : i < L.length), i < j → Le c L[i] L[j] := fun i j hj hi hlt => List.pairwise_iff_getElem.1 hL i j hi hj hlt
  have sR : ∀ (i j : Nat) (hj : j < R.length) (hi : i < R.length), i < j → Le c R[i] R[j] := fun i j hj hi hlt => List.pairwise_iff_getElem.1 hR i j hi hj hlt
  refine ⟨L.take s, L.drop s, R.take e, R.drop e, (List.take_append_drop _ _).symm, (List.take_append_drop _ _).symm, by simp; omega, by simp; omega, ?_, ?_⟩
  · intro u hu v hv
    obtain ⟨i, hi, rfl⟩ := List.getElem_of_mem hu
    obtain ⟨j, hj, rfl⟩ := List.getElem_of_mem hv
    rw [List.length_take] at hi
    rw [List.length_drop] at hj
    rw [List.getElem_take, List.getElem_drop]
    have hs1 : s - 1 < L.length := by omega
    have he1 : e < R.length := by omega
    have h0 : Le c L[s - 1] R[e] := ha (by omega) (by omega) _ _ (by rw [show A.length + s - 1 = A.length + (s - 1) by omega, atL _ hs1, List.getElem?_eq_getElem hs1]) (by rw [atR _ he1, List.getElem?_eq_getElem he1])
    have g1 : Le c (L[i]'(by omega)) R[e] := by
      rcases Nat.lt_or_ge i (s - 1) with hlt | hge
      · exact hc.tr (pL _ (List.getElem_mem _)) (pL _ (List.getElem_mem _)) (pR _ (List.getElem_mem _)) (sL i (s - 1) hs1 (by omega) hlt) h0
      · have : i = s - 1 := by omega
        subst this; exact h0
    rcases Nat.eq_zero_or_pos j with rfl | hj0
    · simpa using g1
    · exact hc.tr (pL _ (List.getElem_mem _)) (pR _ (List.getElem_mem _)) (pR _ (List.getElem_mem _)) g1 (sR e (e + j) (by omega) he1 (by omega))
  · intro u hu v hv
    obtain ⟨i, hi, rfl⟩ := List.getElem_of_mem hu
    obtain ⟨j, hj, rfl⟩ := List.getElem_of_mem hv
    rw [List.length_take] at hi
    rw [List.length_drop] at hj
    rw [List.getElem_take, List.getElem_drop]
    have hs1 : s < L.length := by omega
    have he1 : e - 1 < R.length := by omega
    have h0 : Le c R[e - 1] L[s] := hb (by omega) (by omega) _ _ (by rw [show A.length + L.length + e - 1 = A.length + L.length + (e - 1) by omega, atR _ he1, List.getElem?_eq_getElem he1]) (by rw [atL _ hs1, List.getElem?_eq_getElem hs1])
    have g1 : Le c (R[i]'(by omega)) L[s] := by
      rcases Nat.lt_or_ge i (e - 1) with hlt | hge
      · exact hc.tr (pR _ (List.getElem_mem _)) (pR _ (List.getElem_mem _)) (pL _ (List.getElem_mem _)) (sR i (e - 1) he1 (by omega) hlt) h0
      · have : i = e - 1 := by omega
        subst this; exact h0
    rcases Nat.eq_zero_or_pos j with rfl | hj0
    · simpa using g1
    · exact hc.tr (pR _ (List.getElem_mem _)) (pL _ (List.getElem_mem _)) (pL _ (List.getElem_mem _)) g1 (sL s (s + j) (by omega) hs1 (by omega))
theorem srtd_app {c : Int → Int → Int} {L R : List Int} : Srtd c (L ++ R) ↔ Srtd c L ∧ Srtd c R ∧ ∀ u ∈ L, ∀ v ∈ R, Le c u v := List.pairwise_append
/-- The two halves, merged. -/
theorem sym_join {c : Int → Int → Int} {L1 L2 R1 R2 M1 M2 : List Int} (hL : Srtd c (L1 ++ L2)) (hR : Srtd c (R1 ++ R2)) (h1 : ∀ u ∈ L1, ∀ v ∈ R2, Le c u v) (h2 : ∀ u ∈ R1, ∀ v ∈ L2, Le c u v) (p1 : M1.Perm (L1 ++ R1)) (p2 : M2.Perm (L2 ++ R2)) (s1 : Srtd c M1) (s2 : Srtd c M2) : Srtd c (M1 ++ M2) ∧ (M1 ++ M2).Perm ((L1 ++ L2) ++ (R1 ++ R2)) := by
  obtain ⟨-, -, hL3⟩ := srtd_app.1 hL
  obtain ⟨-, -, hR3⟩ := srtd_app.1 hR
  refine ⟨srtd_app.2 ⟨s1, s2, fun u hu v hv => ?_⟩, ?_⟩
  · rcases List.mem_append.1 (p1.mem_iff.1 hu) with hu | hu <;> rcases List.mem_append.1 (p2.mem_iff.1 hv) with hv | hv
    · exact hL3 u hu v hv
    · exact h1 u hu v hv
    · exact h2 u hu v hv
    · exact hR3 u hu v hv
  · refine (p1.append p2).trans ?_
    rw [List.append_assoc, List.append_assoc]
    refine List.Perm.append_left _ ?_
    rw [← List.append_assoc, ← List.append_assoc]
    exact List.Perm.append_right _ List.perm_append_comm
theorem parts_seg {c : Int → Int → Int} {A M T : List Int} (h : Srtd c M) : SegS c (A ++ (M ++ T)) A.length (A.length + M.length) := by
  intro p q u v h1 h2 h3 hu hv
  rw [List.getElem?_append_right (by omega), List.getElem?_append_left (by omega)] at hu hv
  obtain ⟨hp, rfl⟩ := List.getElem?_eq_some_iff.1 hu
  obtain ⟨hq, rfl⟩ := List.getElem?_eq_some_iff.1 hv
  exact List.pairwise_iff_getElem.1 h _ _ hp hq (by omega)
section
variable {P : Int → Prop} {c : Int → Int → Int}
theorem bs_left (hc : OrdC P c) {xs : List Int} {lo hi h : Nat} {e va : Int} (hP : ∀ u ∈ xs, P u) (he : P e) (hS : SegS c xs lo hi) (h0 : lo ≤ h) (h1 : h < hi) (hx : xs[h]? = some va) (hr : Le c va e) : ∀ h' u, lo ≤ h' → h' < h + 1 → xs[h']? = some u → Le c u e := by
  intro h' u g1 g2 hu
  by_cases e1 : h' = h
  · subst e1
    rw [hx] at hu
    obtain rfl := Option.some.inj hu
    exact hr
  · exact hc.tr (hP u (List.mem_of_getElem? hu)) (hP va (List.mem_of_getElem? hx)) he (hS h' h u va g1 (by omega) h1 hu hx) hr
theorem bs_right (hc : OrdC P c) {xs : List Int} {lo hi h : Nat} {e va : Int} (hP : ∀ u ∈ xs, P u) (he : P e) (hS : SegS c xs lo hi) (h0 : lo ≤ h) (h1 : h < hi) (hx : xs[h]? = some va) (hr : Le c e va) : ∀ h' u, h ≤ h' → h' < hi → xs[h']? = some u → Le c e u := by
  intro h' u g1 g2 hu
  by_cases e1 : h' = h
  · subst e1
    rw [hx] at hu
    obtain rfl := Option.some.inj hu
    exact hr
  · exact hc.tr he (hP va (List.mem_of_getElem? hx)) (hP u (List.mem_of_getElem? hu)) hr (hS h h' va u h0 (by omega) g2 hx hu)
end
theorem one_step (A R T : List Int) (e : Int) (s : Nat) (hs : s < R.length) : swapL (A ++ (R.take s ++ e :: (R.drop s ++ T))) (A.length + s) (A.length + s + 1) = A ++ (R.take (s + 1) ++ e :: (R.drop (s + 1) ++ T)) := by
  have h1 := swap_app (A ++ R.take s) e R[s] (R.drop (s + 1) ++ T)
  rw [List.length_append, List.length_take, Nat.min_eq_left (by omega)] at h1
  have e1 : R.drop s = R[s] :: R.drop (s + 1) := List.drop_eq_getElem_cons hs
  have e2 : R.take (s + 1) = R.take s ++ [R[s]] := by rw [List.take_add_one, List.getElem?_eq_getElem hs]; rfl
  rw [e1, e2]
  simp only [List.append_assoc, List.cons_append, List.nil_append] at h1 ⊢
  exact h1
theorem last_step (A L T : List Int) (e : Int) (s : Nat) (hs : s < L.length) : swapL (A ++ (L.take (s + 1) ++ e :: (L.drop (s + 1) ++ T))) (A.length + s + 1) (A.length + s) = A ++ (L.take s ++ e :: (L.drop s ++ T)) := by
  have h1 := swap_app' (A ++ L.take s) L[s] e (L.drop (s + 1) ++ T)
  rw [List.length_append, List.length_take, Nat.min_eq_left (by omega)] at h1
  have e1 : L.drop s = L[s] :: L.drop (s + 1) := List.drop_eq_getElem_cons hs
  have e2 : L.take (s + 1) = L.take s ++ [L[s]] := by rw [List.take_add_one, List.getElem?_eq_getElem hs]; rfl
  rw [e1, e2]
  simp only [List.append_assoc, List.cons_append, List.nil_append] at h1 ⊢
  exact h1
theorem ins_srtd {c : Int → Int → Int} {R : List Int} {e : Int} (hR : Srtd c R) (s : Nat) (h1 : ∀ u ∈ R.take s, Le c u e) (h2 : ∀ u ∈ R.drop s, Le c e u) : Srtd c (R.take s ++ e :: R.drop s) ∧ (R.take s ++ e :: R.drop s).Perm (e :: R) := by
  have hR' := hR
  rw [← List.take_append_drop s R] at hR'
  obtain ⟨a1, a2, a3⟩ := srtd_app.1 hR'
  refine ⟨srtd_app.2 ⟨a1, List.pairwise_cons.2 ⟨h2, a2⟩, ?_⟩, ?_⟩
  · intro u hu v hv
    rcases List.mem_cons.1 hv with rfl | hv
    · exact h1 u hu
    · exact a3 u hu v hv
  · have := List.perm_middle (a := e) (l₁ := R.take s) (l₂ := R.drop s)
    rwa [List.take_append_drop] at this
/-! ### Blocks -/
/-- The blocks of s that begin before a are sorted. -/
def BlkS (c : Int → Int → Int) (ys : List Int) (s a N : Nat) : Prop := (∃ q0, a = q0 * s) ∧ ∀ q, q * s < a → SegS c ys (q * s) (min ((q + 1) * s) N)
def BlkA (c : Int → Int → Int) (ys : List Int) (s N : Nat) : Prop := ∀ q, SegS c ys (q * s) (min ((q + 1) * s) N)
def BlkF (c : Int → Int → Int) (ys : List Int) (s a N : Nat) : Prop := ∀ q, a ≤ q * s → SegS c ys (q * s) (min ((q + 1) * s) N)
section
variable {c : Int → Int → Int} {xs ys : List Int} {s a b N : Nat}
theorem SegS.out {p q : Nat} (h : SegS c xs p q) (ho : OutS xs ys a b) (hd : q ≤ a ∨ b ≤ p) : SegS c ys p q := by
  intro i j u v h1 h2 h3 hu hv
  rw [ho i (by omega)] at hu
  rw [ho j (by omega)] at hv
  exact h i j u v h1 h2 h3 hu hv
theorem SegS.none {p q : Nat} (h : q ≤ p) : SegS c xs p q := fun i j u v h1 h2 h3 => by omega
theorem SegS.sub {p q p' q' : Nat} (h : SegS c xs p q) (h1 : p ≤ p') (h2 : q' ≤ q) : SegS c xs p' q' := fun i j u v g1 g2 g3 => h i j u v (by omega) g2 (by omega)
theorem blk0 (c : Int → Int → Int) (ys : List Int) (s N : Nat) : BlkS c ys s 0 N := ⟨⟨0, by simp⟩, fun q h => by omega⟩
theorem mul_step {q q0 s : Nat} (h : q * s < q0 * s) : (q + 1) * s ≤ q0 * s := Nat.mul_le_mul_right _ (Nat.lt_of_mul_lt_mul_right h)
theorem mul_eq_of {q q0 s : Nat} (h1 : q0 * s ≤ q * s) (h2 : q * s < q0 * s + s) (hs : 0 < s) : q = q0 := by
  have g1 : q0 ≤ q := Nat.le_of_mul_le_mul_right h1 hs
  have g2 : q * s < (q0 + 1) * s := by rw [Nat.add_mul]; omega
  have g3 : q < q0 + 1 := Nat.lt_of_mul_lt_mul_right g2
  omega
theorem BlkS.more (h : BlkS c xs s a N) (hs : 0 < s) (hb : b = a + s) (hbN : b ≤ N) (ho : OutS xs ys a b) (hseg : SegS c ys a b) : BlkS c ys s b N := by
  obtain ⟨⟨q0, rfl⟩, h2⟩ := h
  refine ⟨⟨q0 + 1, by rw [Nat.add_mul]; omega⟩, fun q hq => ?_⟩
  by_cases hlt : q * s < q0 * s
  · have := mul_step hlt
    exact (h2 q hlt).out ho (.inl (by omega))
  · have e := mul_eq_of (q := q) (q0 := q0) (by omega) (by omega) hs
    subst e
    rw [show (q + 1) * s = b by rw [Nat.add_mul]; omega, Nat.min_eq_left hbN]
    exact hseg
theorem BlkS.last (h : BlkS c xs s a N) (hs : 0 < s) (hb : N < a + s) (ho : OutS xs ys a N) (hseg : SegS c ys a N) : BlkA c ys s N := by
  obtain ⟨⟨q0, rfl⟩, h2⟩ := h
  intro q
  by_cases hlt : q * s < q0 * s
  · have := mul_step hlt
    exact (h2 q hlt).out ho (.inl (by omega))
  · exact hseg.sub (by omega) (Nat.min_le_right _ _)
theorem BlkA.from0 (h : BlkA c ys s N) : BlkF c ys s 0 N := fun q _ => h q
theorem BlkF.more (h : BlkF c xs s a N) (hab : a ≤ b) (ho : OutS xs ys a b) : BlkF c ys s b N := fun q hq => (h q (by omega)).out ho (.inr hq)
theorem blk_two {s2 : Nat} (h : BlkS c xs s2 a N) (hf : BlkF c xs s a N) (h2 : s2 = 2 * s) : SegS c xs a (min (a + s) N) ∧ SegS c xs (a + s) (min (a + s2) N) := by
  obtain ⟨⟨q0, rfl⟩, -⟩ := h
  subst h2
  have e0 : 2 * q0 * s = q0 * (2 * s) := by rw [Nat.mul_comm 2 q0, Nat.mul_assoc]
  have e1 : (2 * q0 + 1) * s = q0 * (2 * s) + s := by rw [Nat.add_mul, e0, Nat.one_mul]
  have e2 : (2 * q0 + 1 + 1) * s = q0 * (2 * s) + 2 * s := by rw [Nat.add_mul, e1, Nat.one_mul]; omega
  have h1 := hf (2 * q0) (by omega)
  have h3 := hf (2 * q0 + 1) (by omega)
  rw [e0, e1] at h1
  rw [e1, e2] at h3
  exact ⟨h1, h3⟩
theorem BlkS.end_ (h : BlkS c ys s a N) (hs : 0 < s) (hb : N < a + s) (hseg : SegS c ys a N) : BlkA c ys s N := h.last hs hb (OutS.refl _ _ _) hseg
end
theorem four_parts (xs : List Int) (a m b : Nat) (h1 : a ≤ m) (h2 : m ≤ b) (h3 : b ≤ xs.length) : ∃ A L R T : List Int, xs = A ++ (L ++ (R ++ T)) ∧ A.length = a ∧ A.length + L.length = m ∧ A.length + L.length + R.length = b := by
  refine ⟨xs.take a, (xs.drop a).take (m - a), (xs.drop m).take (b - m), xs.drop b, ?_, by simp; omega, by simp; omega, by simp; omega⟩
  have e1 : xs.drop m = (xs.drop m).take (b - m) ++ xs.drop b := by
    have := (List.take_append_drop (b - m) (xs.drop m)).symm
    rw [List.drop_drop, show m + (b - m) = b by omega] at this
    exact this
  have e2 : xs.drop a = (xs.drop a).take (m - a) ++ xs.drop m := by
    have := (List.take_append_drop (m - a) (xs.drop a)).symm
    rw [List.drop_drop, show a + (m - a) = m by omega] at this
    exact this
  rw [← e1, ← e2, List.take_append_drop]
end Go.Proofs.Ytgfmplhpoblleaa.FailW
end
section
/- slices.SortStableFunc over a row of node numbers, by depths: it ends, and what it leaves is the same numbers. -/
namespace Go.Proofs.Ytgfmplhpoblleaa.FailW
open Go.RowKit Go.Shelf Go.Lib Go.Proofs Go.Proofs.YtgfmplhpoblleaaW.PrintWords Go.Proofs.YtgfmplhpoblleaaW.PrintLast Go.Proofs.YtgfmplhpoblleaaW.PrintMore Go.Proofs.Ytgfmplhpoblleaa.PRank Go.Proofs.Ytgfmplhpoblleaa.PFB Go.Proofs.Ytgfmplhpoblleaa.RankW Go.Proofs.Ytgfmplhpoblleaa.SortOwn Go.Proofs.Ytgfmplhpoblleaa
open Go.Proofs.Ytgfmplhpoblleaa.Cmps hiding dedup
set_option linter.unusedVariables false
set_option linter.unusedSimpArgs false

theorem cell_set_far' {w : World} {a p : Addr} {u v : Value} (h : w.cell? a = some v) (hne : a.block ≠ p.block) : (w.setCell p u).cell? a = some v := (World.cell?_of_block (Below.heap_setCell w p u a.block hne)).trans h
/-- How two nodes compare. -/
def cmpD (x : List S106) (a b : Int) : Int := if IntKind.i64.wrap ((nodeOf x a).f2 - (nodeOf x b).f2) = 0 then wrap64 (a - b) else IntKind.i64.wrap ((nodeOf x a).f2 - (nodeOf x b).f2)
set_option maxHeartbeats 2000000 in
set_option maxRecDepth 100000 in
theorem cmpD_calls (a b : Int) (b1 : Nat) (t : Addr) (x : List S106) (w : World) (hT : TrieAt w t x) (hb : w.cell? ⟨b1, 0, none⟩ = some (.pointer (some t))) :
    Calls Try.prog 81 #[.int .i64 a, .int .i64 b, .pointer (some ⟨b1, 0, none⟩)] w fun e w' => e = .returned (.int .i64 (cmpD x a b)) ∧ Grows w w' := by
  have HT := Aside0.mk hT
  clear hT
  obtain ⟨d, hd⟩ : ∃ d, d = IntKind.i64.wrap ((nodeOf x a).f2 - (nodeOf x b).f2) := ⟨_, rfl⟩
  have HD := Aside0.mk hd
  have hc : cmpD x a b = if d = 0 then wrap64 (a - b) else d := by rw [hd]; rfl
  have HC := Aside0.mk hc
  clear hc hd
  have mixed : Try.prog.follows Departure.mixedOrders = true := by kernel_rfl
  go_enter Try.func81, Try.ntmps81
  go_wp2
  go_region_held3 (fun w' => w'.cell? ⟨b1, 0, none⟩ = some (.pointer (some t)))
    (first | exact hb | assumption | go_keep)
    (first | (go_simp; go_at_call 41; refine (depth_calls t x a _ (HT.out.grows ((Grows.refl w).drewN 1))).mono ?_; rintro e w2 ⟨rfl, hg2⟩; have k2 := cell_grows hg2 hb; have G2 := Aside0.mk (((Grows.refl w).drewN 1).trans hg2); clear hg2) | (go_simp; go_at_call 41; refine (depth_calls t x b _ (HT.out.grows G2.out)).mono ?_; rintro e w3 ⟨rfl, hg3⟩; have k3 := cell_grows hg3 k2; have G3 := Aside0.mk (G2.out.trans hg3); clear hg3))
  rw [show IntKind.i64.wrap ((nodeOf x a).f2 - (nodeOf x b).f2) = d from HD.out.symm]
  by_cases h0 : d = 0
  · have HC2 := Aside0.mk (HC.out.trans (if_pos h0))
    subst h0
    go_wp2
    go_ret
    exact ⟨by rw [HC2.out]; rfl, G3.out⟩
  · have HC2 := Aside0.mk (HC.out.trans (if_neg h0))
    go_wp2
    go_ret
    exact ⟨by rw [HC2.out]; rfl, G3.out⟩

/-- A row that is being sorted. -/
structure Srt (w0 w : World) (b1 gd cap : Nat) (t : Addr) (x : List S106) (xs : List Int) : Prop where
  tr : TrieAt w0 t x
  bw : Go.RowKit.Below w0.heap.size w0 w
  bx : w.cell? ⟨b1, 0, none⟩ = some (.pointer (some t))
  nb : b1 ≠ gd
  row : w.ownsRow w0.heap.size 3 1 (.slice (some ⟨gd, 0, none⟩) xs.length cap) xs.length (encI xs)
/-- A node's number. -/
def NdS (x : List S106) (u : Int) : Prop := ∃ m : Nat, u = m ∧ m < x.length
theorem cmpD_ord {x : List S106} (hx : x.length ≤ 1000000) (hd : ∀ y ∈ x, 0 ≤ y.f2 ∧ y.f2 ≤ 1000000) : OrdC (NdS x) (cmpD x) := by
  have val : ∀ u v, NdS x u → NdS x v → cmpD x u v = if (nodeOf x u).f2 = (nodeOf x v).f2 then u - v else (nodeOf x u).f2 - (nodeOf x v).f2 := by
    rintro u v ⟨m, rfl, hm⟩ ⟨n, rfl, hn⟩
    have h1 := hd _ (List.getElem_mem hm)
    have h2 := hd _ (List.getElem_mem hn)
    have e1 : IntKind.i64.wrap (x[m].f2 - x[n].f2) = x[m].f2 - x[n].f2 := IntWalk.i64_in _ (by omega)
    have e2 : wrap64 ((m : Int) - (n : Int)) = (m : Int) - n := RankW.wrap_small _ (by omega) (by omega)
    unfold cmpD
    rw [nodeOf_nat hm, nodeOf_nat hn, e1, e2]
    by_cases h : x[m].f2 = x[n].f2
    · rw [if_pos h, if_pos (by omega)]
    · rw [if_neg h, if_neg (by omega)]
  constructor
  · intro u v hu hv h
    rw [val u v hu hv] at h
    rw [val v u hv hu]
    split at h <;> split <;> omega
  · intro u v t hu hv ht h1 h2
    rw [val v u hv hu] at h1
    rw [val t v ht hv] at h2
    rw [val t u ht hu]
    split at h1 <;> split at h2 <;> split <;> omega
section
variable {w0 w : World} {b1 gd cap : Nat} {t : Addr} {x : List S106} {xs : List Int}
theorem Srt.grows {w1 : World} (h : Srt w0 w b1 gd cap t x xs) (hg : Grows w w1) : Srt w0 w1 b1 gd cap t x xs := ⟨h.tr, h.bw.trans (hg.below.mono h.bw.size), cell_grows hg h.bx, h.nb, pw_own_below h.row hg.below⟩
theorem Srt.at_ (h : Srt w0 w b1 gd cap t x xs) (i : Nat) (hi : i < xs.length) : w.cell? ⟨gd, i, none⟩ = some (.int .i64 xs[i]) := own_cells h.row (encI_at xs i hi)
theorem Srt.fz (h : Srt w0 w b1 gd cap t x xs) (i : Nat) : w.frozen? ⟨gd, i, none⟩ = false := own_frozen h.row i
theorem Srt.set (h : Srt w0 w b1 gd cap t x xs) (i : Nat) (v : Int) : Srt w0 (w.setCell ⟨gd, i, none⟩ (.int .i64 v)) b1 gd cap t x (xs.set i v) ∧ w.grownBy (w.setCell ⟨gd, i, none⟩ (.int .i64 v)) (some gd) := by
  obtain ⟨r1, g1⟩ := own_set h.row i (.int .i64 v)
  refine ⟨⟨h.tr, h.bw.setCell (p := ⟨gd, i, none⟩) (own_sz h.row) _, cell_set_far' h.bx h.nb, h.nb, by rw [List.length_set, ← encI_set]; exact r1⟩, g1⟩
end

theorem grows_grownTo {w w' : World} (h : Grows w w') (row : Option Nat) : w.grownBy w' row := grown_of_below h.below row
set_option maxHeartbeats 8000000 in
set_option maxRecDepth 100000 in
theorem ins_calls (w0 w : World) (b1 gd cap : Nat) (t : Addr) (x : List S106) (xs : List Int) (a b : Nat) (hS : Srt w0 w b1 gd cap t x xs) (hab : a ≤ b) (hb : b ≤ xs.length) (hlen : xs.length ≤ 1000000000000) (hO : OrdC (NdS x) (cmpD x)) (hP : ∀ u ∈ xs, NdS x u) :
    Calls Try.prog 122 #[.slice (some ⟨gd, 0, none⟩) xs.length cap, .int .i64 a, .int .i64 b, .func (.func 81) #[] #[.pointer (some ⟨b1, 0, none⟩)]] w fun e w' => e = .returned (.tuple #[]) ∧ ∃ ys : List Int, Srt w0 w' b1 gd cap t x ys ∧ (ys.Perm xs ∧ OutS xs ys a b ∧ SegS (cmpD x) ys a b) ∧ w.grownBy w' (some gd) := by
  have HS := Aside0.mk hS
  have HP := Aside0.mk (And.intro hO hP)
  clear hS hO hP
  have mixed : Try.prog.follows Departure.mixedOrders = true := by kernel_rfl
  go_enter Try.func122, Try.ntmps122
  go_wp2
  go_loopw [8] (fun iv wr => ∃ (i : Nat) (ys : List Int), iv = .int .i64 i ∧ a + 1 ≤ i ∧ i ≤ xs.length + 1 ∧ Srt w0 wr b1 gd cap t x ys ∧ (ys.Perm xs ∧ OutS xs ys a b ∧ SegS (cmpD x) ys a i) ∧ w.grownBy wr (some gd)) (fun iv wr => xs.length + 1 - (intOf iv).toNat)
  case atStart =>
    exact ⟨a + 1, xs, by go_num, Nat.le_refl _, by omega, HS.out, ⟨List.Perm.refl _, OutS.refl _ _ _, fun p q u v h1 h2 h3 => by omega⟩, ⟨rfl, rfl, rfl, Nat.le_refl _, fun _ _ _ => rfl⟩⟩
  case round =>
    obtain ⟨i, ys, rfl, hai, hi, hS, hp, hg⟩ := hrel
    have HR := Aside0.mk (And.intro hS (And.intro hp hg))
    clear hS hp hg
    by_cases hlt : (i : Int) < (b : Int)
    · go_wp2
      go_loopw [9] (fun jv wq => ∃ (j : Nat) (zs : List Int), jv = .int .i64 j ∧ a ≤ j ∧ j ≤ i ∧ Srt w0 wq b1 gd cap t x zs ∧ (zs.Perm xs ∧ OutS xs zs a b ∧ InsI (cmpD x) zs a i j) ∧ w.grownBy wq (some gd)) (fun jv wq => (intOf jv).toNat)
      case atStart => exact ⟨i, ys, rfl, by omega, Nat.le_refl _, HR.out.1, ⟨HR.out.2.1.1, HR.out.2.1.2.1, HR.out.2.1.2.2.ins⟩, HR.out.2.2⟩
      case round =>
        obtain ⟨j, zs, rfl, haj, hj, hS, hp, hg⟩ := hrel
        have hzl : zs.length = xs.length := hp.1.length_eq
        by_cases hja : (a : Int) < (j : Int)
        · obtain ⟨m, rfl⟩ : ∃ m, j = m + 1 := ⟨j - 1, by omega⟩
          have d1 := hS.at_ (m + 1) (by omega)
          have d0 := hS.at_ m (by omega)
          have z1 := hS.fz (m + 1)
          have z0 := hS.fz m
          have i6 : IntKind.i64.wrap ((m : Int) + 1 - 1) = (m : Int) := by rw [IntWalk.i64_in _ (by omega)]; omega
          have i7 : IntKind.i64.wrap (m : Int) = (m : Int) := IntWalk.i64_in _ (by omega)
          have il : (m : Int) + 1 < (xs.length : Int) := by omega
          have il0 : (m : Int) < (xs.length : Int) := by omega
          have il0n : m < xs.length := by omega
          have il0z : (0 : Int) ≤ (m : Int) + 1 := by omega
          have ga : (a : Int) < (m : Int) + 1 := by omega
          have gb : decide ((a : Int) < (m : Int) + 1) = true := decide_eq_true ga
          have HQ := Aside0.mk (And.intro hS (And.intro hp hg))
          clear hS hp hg
          obtain ⟨r, hr⟩ : ∃ r, r = cmpD x (zs[m + 1]'(by omega)) (zs[m]'(by omega)) := ⟨_, rfl⟩
          have HRr := Aside0.mk hr
          clear hr
          go_wp2_with fail
          go_region_held3 (fun w' => w'.cell? ⟨gd, m + 1, none⟩ = some (.int .i64 (zs[m + 1]'(by omega))) ∧ w'.cell? ⟨gd, m, none⟩ = some (.int .i64 (zs[m]'(by omega))))
            (first | exact ⟨d1, d0⟩ | (exact ⟨cell_grows G2.out d1, cell_grows G2.out d0⟩) | go_keep)
            ((go_simp; go_at_call 81; refine (cmpD_calls _ _ b1 t x _ (HQ.out.1.tr.below (HQ.out.1.grows ((Grows.refl wr).drewN 1)).bw) (HQ.out.1.grows ((Grows.refl wr).drewN 1)).bx).mono ?_; rw [← HRr.out]; rintro e w2 ⟨rfl, hg2⟩; have G2 := Aside0.mk (((Grows.refl wr).drewN 1).trans hg2); clear hg2))
          have S2 := Aside0.mk (HQ.out.1.grows G2.out)
          have HG2 := Aside0.mk (HQ.out.2.2.trans (grows_grownTo G2.out (some gd)))
          by_cases hr0 : r < 0
          · have hd : decide (r < 0) = true := decide_eq_true hr0
            have c1 := S2.out.at_ (m + 1) (by omega)
            have c0 := S2.out.at_ m (by omega)
            have y1 := S2.out.fz (m + 1)
            have y0 := S2.out.fz m
            go_wp2
            go_region
            all_goals go_wp2
            all_goals (
              obtain ⟨s3, g3⟩ := S2.out.set (m + 1) (zs[m]'(by omega))
              obtain ⟨s4, g4⟩ := s3.set m (zs[m + 1]'(by omega))
              refine ⟨⟨m, swapL zs (m + 1) m, rfl, by omega, by omega, ?_, ⟨(swapL_perm zs (m + 1) m (by omega) (by omega)).trans HQ.out.2.1.1, HQ.out.2.1.2.1.swap (by omega) (by omega) (by omega) (by omega), HQ.out.2.1.2.2.swap HP.out.1 (fun u hu => HP.out.2 u (HQ.out.2.1.1.mem_iff.1 hu)) (by omega) (by omega) (by omega) (by rw [← HRr.out]; exact hr0)⟩, ?_⟩, by simp only [intOf]; omega⟩
              · rw [swapL_eq zs (m + 1) m (by omega) (by omega)]; exact s4.grows ((Grows.refl _).drewN 1)
              · exact (HG2.out.trans (g3.trans g4)).trans (grows_grownTo ((Grows.refl _).drewN 1) (some gd)))
          · have hd : decide (r < 0) = false := decide_eq_false hr0
            go_wp2
            exact ⟨⟨i + 1, zs, by go_num, by omega, by omega, S2.out, ⟨HQ.out.2.1.1, HQ.out.2.1.2.1, HQ.out.2.1.2.2.done HP.out.1 (fun u hu => HP.out.2 u (HQ.out.2.1.1.mem_iff.1 hu)) (by omega) (by omega) (by omega) (by rw [← HRr.out]; exact hr0)⟩, HG2.out⟩, by simp only [intOf]; omega⟩
        · have gb : decide ((a : Int) < (j : Int)) = false := decide_eq_false hja
          have ga : j ≤ a := by omega
          have gc : ¬ a < j := by omega
          have ge : decide (a < j) = false := decide_eq_false gc
          have HQ := Aside0.mk (And.intro hS (And.intro hp hg))
          clear hS hp hg
          go_wp2_with fail
          go_quiet (fail)
          go_wp2
          have ea : j = a := by omega
          subst ea
          exact ⟨⟨i + 1, zs, by go_num, by omega, by omega, HQ.out.1.grows ((Grows.refl _).drewN _), ⟨HQ.out.2.1.1, HQ.out.2.1.2.1, HQ.out.2.1.2.2.low⟩, HQ.out.2.2.trans (grows_grownTo ((Grows.refl _).drewN _) (some gd))⟩, by simp only [intOf]; omega⟩
    · go_wp2
      go_end0
      exact ⟨rfl, ys, HR.out.1, ⟨HR.out.2.1.1, HR.out.2.1.2.1, fun p q u v h1 h2 h3 => HR.out.2.1.2.2 p q u v h1 h2 (by omega)⟩, HR.out.2.2⟩
end Go.Proofs.Ytgfmplhpoblleaa.FailW
end
section
/- slices.SortStableFunc: swapRange, rotate. -/
namespace Go.Proofs.Ytgfmplhpoblleaa.FailW
open Go.RowKit Go.Shelf Go.Lib Go.Proofs Go.Proofs.YtgfmplhpoblleaaW.PrintWords Go.Proofs.YtgfmplhpoblleaaW.PrintLast Go.Proofs.YtgfmplhpoblleaaW.PrintMore Go.Proofs.Ytgfmplhpoblleaa.PRank Go.Proofs.Ytgfmplhpoblleaa.PFB Go.Proofs.Ytgfmplhpoblleaa.RankW Go.Proofs.Ytgfmplhpoblleaa.SortOwn Go.Proofs.Ytgfmplhpoblleaa
open Go.Proofs.Ytgfmplhpoblleaa.Cmps hiding dedup
set_option linter.unusedVariables false
set_option linter.unusedSimpArgs false

set_option maxHeartbeats 8000000 in
set_option maxRecDepth 100000 in
theorem swr_calls (w0 w : World) (b1 gd cap : Nat) (t : Addr) (x : List S106) (xs : List Int) (a b n : Nat) (f : Value) (N : Nat) (hN : xs.length = N) (hS : Srt w0 w b1 gd cap t x xs) (hab : a + n ≤ b) (hab' : a < b) (hb : b + n ≤ N) (hlen : N ≤ 1000000000000) :
    Calls Try.prog 155 #[.slice (some ⟨gd, 0, none⟩) N cap, .int .i64 a, .int .i64 b, .int .i64 n, f] w fun e w' => e = .returned (.tuple #[]) ∧ Srt w0 w' b1 gd cap t x (swr xs a b n) ∧ w.grownBy w' (some gd) := by
  have HS := Aside0.mk hS
  clear hS
  have mixed : Try.prog.follows Departure.mixedOrders = true := by kernel_rfl
  go_enter Try.func155, Try.ntmps155
  go_wp2
  go_loopw [10] (fun iv wr => ∃ (k : Nat) (ys : List Int), iv = .int .i64 k ∧ k ≤ n ∧ Srt w0 wr b1 gd cap t x ys ∧ ys = swr xs a b k ∧ w.grownBy wr (some gd)) (fun iv wr => n - (intOf iv).toNat)
  case atStart =>
    exact ⟨0, xs, rfl, Nat.zero_le _, HS.out, rfl, ⟨rfl, rfl, rfl, Nat.le_refl _, fun _ _ _ => rfl⟩⟩
  case round =>
    obtain ⟨k, ys, rfl, hk, hS, hp, hg⟩ := hrel
    have hzl : ys.length = N := by rw [hp, swr_len]; exact hN
    by_cases hlt : k < n
    · obtain ⟨va, hva⟩ : ∃ va, va = ys[a + k]'(by omega) := ⟨_, rfl⟩
      obtain ⟨vb, hvb⟩ : ∃ vb, vb = ys[b + k]'(by omega) := ⟨_, rfl⟩
      have c1 := hS.at_ (a + k) (by omega)
      have c0 := hS.at_ (b + k) (by omega)
      rw [← hva] at c1
      rw [← hvb] at c0
      have y1 := hS.fz (a + k)
      have y0 := hS.fz (b + k)
      have i1 : IntKind.i64.wrap ((a : Int) + (k : Int)) = (a : Int) + (k : Int) := IntWalk.i64_in _ (by omega)
      have i2 : IntKind.i64.wrap ((b : Int) + (k : Int)) = (b : Int) + (k : Int) := IntWalk.i64_in _ (by omega)
      have i3 : (0 : Int) ≤ (a : Int) + (k : Int) := by omega
      have i4 : (0 : Int) ≤ (b : Int) + (k : Int) := by omega
      have i5 : (a : Int) + (k : Int) < (N : Int) := by omega
      have i6 : (b : Int) + (k : Int) < (N : Int) := by omega
      have i7 : ((a : Int) + (k : Int)).toNat = a + k := by omega
      have i8 : ((b : Int) + (k : Int)).toNat = b + k := by omega
      have n1 : ¬ a = b := by omega
      have n2 : ¬ b = a := by omega
      have n3 : ¬ a + k = b + k := by omega
      have n4 : ¬ b + k = a + k := by omega
      have ilt : (k : Int) < (n : Int) := by omega
      have HQ := Aside0.mk (And.intro hS (And.intro hp hg))
      have HB := Aside0.mk (And.intro hva hvb)
      clear hS hp hg hva hvb
      go_wp2
      go_region
      all_goals go_wp2
      all_goals (
        obtain ⟨hva, hvb⟩ := HB.out
        obtain ⟨s3, g3⟩ := HQ.out.1.set (a + k) vb
        obtain ⟨s4, g4⟩ := s3.set (b + k) va
        refine ⟨⟨k + 1, swapL ys (a + k) (b + k), by go_num, by omega, ?_, by rw [HQ.out.2.1]; rfl, ?_⟩, by simp only [intOf]; omega⟩
        · rw [swapL_eq ys (a + k) (b + k) (by omega) (by omega), ← hva, ← hvb]; exact s4.grows ((Grows.refl _).drewN 1)
        · exact (HQ.out.2.2.trans (g3.trans g4)).trans (grows_grownTo ((Grows.refl _).drewN 1) (some gd)))
    · have hkn : ¬ ((k : Int) < (n : Int)) := by omega
      have HQ := Aside0.mk (And.intro hS (And.intro hp hg))
      clear hS hp hg
      go_wp2
      go_end0
      have ek : k = n := by omega
      subst ek
      exact ⟨rfl, by rw [← HQ.out.2.1]; exact HQ.out.1, HQ.out.2.2⟩

set_option maxHeartbeats 4000000 in
set_option maxRecDepth 100000 in
theorem rot_calls (w0 w : World) (b1 gd cap : Nat) (t : Addr) (x : List S106) (xs : List Int) (A L R T : List Int) (hxs : xs = A ++ (L ++ (R ++ T))) (a m b : Nat) (ea : A.length = a) (em : A.length + L.length = m) (eb : A.length + L.length + R.length = b) (f : Value) (N : Nat) (hN : xs.length = N) (hS : Srt w0 w b1 gd cap t x xs) (ham : a < m) (hmb : m < b) (hb : b ≤ N) (hlen : N ≤ 1000000000000) :
    Calls Try.prog 141 #[.slice (some ⟨gd, 0, none⟩) N cap, .int .i64 a, .int .i64 m, .int .i64 b, f] w fun e w' => e = .returned (.tuple #[]) ∧ Srt w0 w' b1 gd cap t x (A ++ (R ++ (L ++ T))) ∧ w.grownBy w' (some gd) := by
  have HS := Aside0.mk (And.intro hS (And.intro hxs (And.intro ea (And.intro em eb))))
  have lA : A.length = a := ea
  have lL : L.length = m - a := by omega
  have lR : R.length = b - m := by omega
  have hN2 : (A ++ (L ++ (R ++ T))).length = N := by rw [← hxs]; exact hN
  have HE := Aside0.mk (And.intro lA (And.intro lL (And.intro lR hN2)))
  clear hS hxs ea em eb lA lL lR hN2
  have q1 : IntKind.i64.wrap ((m : Int) - (a : Int)) = ((m - a : Nat) : Int) := by rw [IntWalk.i64_in _ (by omega)]; omega
  have q2 : IntKind.i64.wrap ((b : Int) - (m : Int)) = ((b - m : Nat) : Int) := by rw [IntWalk.i64_in _ (by omega)]; omega
  go_enter Try.func141, Try.ntmps141
  go_wp2
  go_loopw [10, 11] (fun iv jv wr => ∃ (i j : Nat) (ys P X Y T1 : List Int), iv = .int .i64 i ∧ jv = .int .i64 j ∧ 1 ≤ i ∧ 1 ≤ j ∧ i ≤ m - a ∧ j ≤ b - m ∧ Srt w0 wr b1 gd cap t x ys ∧ (ys = P ++ (X ++ (Y ++ T1)) ∧ X.length = i ∧ Y.length = j ∧ P.length + i = m ∧ A ++ (R ++ (L ++ T)) = P ++ (Y ++ (X ++ T1)) ∧ ys.length = N) ∧ w.grownBy wr (some gd)) (fun iv jv wr => (intOf iv).toNat + (intOf jv).toNat)
  case atStart =>
    exact ⟨m - a, b - m, xs, A, L, R, T, by first | rfl | rw [q1] | (simp only [q1]), by first | rfl | rw [q2] | (simp only [q2]), by omega, by omega, Nat.le_refl _, Nat.le_refl _, HS.out.1, ⟨HS.out.2.1, HE.out.2.1, HE.out.2.2.1, by have := HE.out; omega, rfl, by rw [HS.out.2.1]; exact HE.out.2.2.2⟩, ⟨rfl, rfl, rfl, Nat.le_refl _, fun _ _ _ => rfl⟩⟩
  case round =>
    obtain ⟨i, j, ys, P, X, Y, T1, rfl, rfl, hi, hj, hia, hjb, hS, hp, hg⟩ := hrel
    have hzl : ys.length = N := hp.2.2.2.2.2
    have HQ := Aside0.mk (And.intro hS (And.intro hp hg))
    have r1 : IntKind.i64.wrap ((m : Int) - (i : Int)) = ((m - i : Nat) : Int) := by rw [IntWalk.i64_in _ (by omega)]; omega
    have r2 : IntKind.i64.wrap ((m : Int) + (j : Int)) = (m : Int) + (j : Int) := IntWalk.i64_in _ (by omega)
    clear hS hp hg q1 q2
    by_cases hij : i = j
    · subst hij
      have W1 := Aside0.mk (And.intro hi (And.intro hia (And.intro hjb (And.intro ham (And.intro hmb (And.intro hb (And.intro hlen hzl)))))))
      clear hi hj hia hjb ham hmb hb hlen hzl hN r2
      go_wp2_with ((go_at_call 155; refine (swr_calls w0 _ b1 gd cap t x ys (m - i) m i _ N W1.out.2.2.2.2.2.2.2 HQ.out.1 (by have := W1.out; omega) (by have := W1.out; omega) (by have := W1.out; omega) (by have := W1.out; omega)).mono ?_; rintro e w2 ⟨rfl, hz2, hzg⟩; have HZ := Aside0.mk (And.intro hz2 hzg); clear hz2 hzg))
      go_end0
      obtain ⟨q1, q2, q3, q4, q5, q6⟩ := HQ.out.2.1
      have h1 := swr_app P X [] Y T1 (by omega)
      simp only [List.nil_append, List.length_nil, Nat.add_zero] at h1
      have e1 : swr ys (m - i) m i = A ++ (R ++ (L ++ T)) := by rw [q5, ← h1, ← q1, show P.length = m - i by omega, show m - i + X.length = m by omega, q2]
      exact ⟨rfl, by rw [← e1]; exact HZ.out.1, HQ.out.2.2.trans HZ.out.2⟩
    · by_cases hgt : j < i
      · have r4 : IntKind.i64.wrap ((i : Int) - (j : Int)) = ((i - j : Nat) : Int) := by rw [IntWalk.i64_in _ (by omega)]; omega
        have W1 := Aside0.mk (And.intro hi (And.intro hj (And.intro hia (And.intro hjb (And.intro ham (And.intro hmb (And.intro hb (And.intro hlen hzl))))))))
        have d2 : (j : Int) < (i : Int) := by omega
        clear hi hj hia hjb ham hmb hb hlen hzl hN r2
        go_wp2_with ((go_at_call 155; refine (swr_calls w0 _ b1 gd cap t x ys (m - i) m j _ N W1.out.2.2.2.2.2.2.2.2 HQ.out.1 (by have := W1.out; omega) (by have := W1.out; omega) (by have := W1.out; omega) (by have := W1.out; omega)).mono ?_; rintro e w2 ⟨rfl, hz2, hzg⟩; have HZ := Aside0.mk (And.intro hz2 hzg); clear hz2 hzg))
        obtain ⟨q1, q2, q3, q4, q5, q6⟩ := HQ.out.2.1
        have hX : X = X.take j ++ X.drop j := (List.take_append_drop j X).symm
        have lX1 : (X.take j).length = j := by rw [List.length_take]; omega
        have lX2 : (X.drop j).length = i - j := by rw [List.length_drop]; omega
        have h1 := swr_app P (X.take j) (X.drop j) Y T1 (by omega)
        have e1 : swr ys (m - i) m j = P ++ (Y ++ (X.drop j ++ (X.take j ++ T1))) := by
          rw [← h1, q1, show P.length = m - i by omega, show m - i + (X.take j).length + (X.drop j).length = m by omega, lX1]
          congr 1
          rw [← List.append_assoc (X.take j), ← hX]
        refine ⟨⟨i - j, j, _, P ++ Y, X.drop j, X.take j, T1, rfl, rfl, by omega, by have := W1.out; omega, by have := W1.out; omega, by have := W1.out; omega, HZ.out.1, ⟨by rw [e1]; simp only [List.append_assoc], lX2, lX1, by rw [List.length_append]; omega, ?_, by rw [swr_len]; exact q6⟩, HQ.out.2.2.trans HZ.out.2⟩, by have := W1.out; simp only [intOf]; omega⟩
        rw [q5]
        simp only [List.append_assoc]
        rw [← List.append_assoc (X.take j), ← hX]
      · have r4 : IntKind.i64.wrap ((j : Int) - (i : Int)) = ((j - i : Nat) : Int) := by rw [IntWalk.i64_in _ (by omega)]; omega
        have r3 : IntKind.i64.wrap ((m : Int) + (j : Int) - (i : Int)) = ((m + j - i : Nat) : Int) := by rw [IntWalk.i64_in _ (by omega)]; omega
        have W1 := Aside0.mk (And.intro hi (And.intro hj (And.intro hia (And.intro hjb (And.intro ham (And.intro hmb (And.intro hb (And.intro hlen hzl))))))))
        have d2 : ¬ ((j : Int) < (i : Int)) := by omega
        clear hi hj hia hjb ham hmb hb hlen hzl hN
        go_wp2_with ((go_at_call 155; refine (swr_calls w0 _ b1 gd cap t x ys (m - i) (m + j - i) i _ N W1.out.2.2.2.2.2.2.2.2 HQ.out.1 (by have := W1.out; omega) (by have := W1.out; omega) (by have := W1.out; omega) (by have := W1.out; omega)).mono ?_; rintro e w2 ⟨rfl, hz2, hzg⟩; have HZ := Aside0.mk (And.intro hz2 hzg); clear hz2 hzg))
        obtain ⟨q1, q2, q3, q4, q5, q6⟩ := HQ.out.2.1
        have hji : i < j := by have := W1.out; omega
        have hY : Y = Y.take (j - i) ++ Y.drop (j - i) := (List.take_append_drop (j - i) Y).symm
        have lY1 : (Y.take (j - i)).length = j - i := by rw [List.length_take]; omega
        have lY2 : (Y.drop (j - i)).length = i := by rw [List.length_drop]; omega
        have h1 := swr_app P X (Y.take (j - i)) (Y.drop (j - i)) T1 (by omega)
        have e1 : swr ys (m - i) (m + j - i) i = P ++ (Y.drop (j - i) ++ (Y.take (j - i) ++ (X ++ T1))) := by
          rw [← h1, q1, show P.length = m - i by omega, show m - i + X.length + (Y.take (j - i)).length = m + j - i by omega, q2]
          congr 1
          rw [← List.append_assoc (Y.take (j - i)), ← hY]
        refine ⟨⟨i, j - i, _, P, Y.drop (j - i), Y.take (j - i), X ++ T1, rfl, rfl, by have := W1.out; omega, by omega, by have := W1.out; omega, by have := W1.out; omega, HZ.out.1, ⟨e1, lY2, lY1, q4, ?_, by rw [swr_len]; exact q6⟩, HQ.out.2.2.trans HZ.out.2⟩, by have := W1.out; simp only [intOf]; omega⟩
        rw [q5, ← List.append_assoc (Y.take (j - i)), ← hY]
end Go.Proofs.Ytgfmplhpoblleaa.FailW
end
section
/- slices.SortStableFunc: symMerge. -/
namespace Go.Proofs.Ytgfmplhpoblleaa.FailW
open Go.RowKit Go.Shelf Go.Lib Go.Proofs Go.Proofs.YtgfmplhpoblleaaW.PrintWords Go.Proofs.YtgfmplhpoblleaaW.PrintLast Go.Proofs.YtgfmplhpoblleaaW.PrintMore Go.Proofs.Ytgfmplhpoblleaa.PRank Go.Proofs.Ytgfmplhpoblleaa.PFB Go.Proofs.Ytgfmplhpoblleaa.RankW Go.Proofs.Ytgfmplhpoblleaa.SortOwn Go.Proofs.Ytgfmplhpoblleaa
open Go.Proofs.Ytgfmplhpoblleaa.Cmps hiding dedup
set_option linter.unusedVariables false
set_option linter.unusedSimpArgs false

/-- What a call of symMerge does. -/
def SymDoes (w0 : World) (b1 gd cap : Nat) (t : Addr) (x : List S106) (N : Nat) (w : World) (A L R T : List Int) (a m b : Nat) : Prop :=
  Calls Try.prog 123 #[.slice (some ⟨gd, 0, none⟩) N cap, .int .i64 a, .int .i64 m, .int .i64 b, .func (.func 81) #[] #[.pointer (some ⟨b1, 0, none⟩)]] w fun e w' => e = .returned (.tuple #[]) ∧ ∃ M : List Int, Srt w0 w' b1 gd cap t x (A ++ (M ++ T)) ∧ (M.Perm (L ++ R) ∧ Srtd (cmpD x) M) ∧ w.grownBy w' (some gd)
/-- What a call of symMerge finds. -/
structure SymIn (x : List S106) (xs A L R T : List Int) (a m b : Nat) : Prop where
  ord : OrdC (NdS x) (cmpD x)
  nd : ∀ u ∈ xs, NdS x u
  eq : xs = A ++ (L ++ (R ++ T))
  la : A.length = a
  lm : A.length + L.length = m
  lb : A.length + L.length + R.length = b
  sl : Srtd (cmpD x) L
  sr : Srtd (cmpD x) R
theorem grownBy_refl (w : World) (row : Option Nat) : w.grownBy w row := ⟨rfl, rfl, rfl, Nat.le_refl _, fun _ _ _ => rfl⟩
set_option maxHeartbeats 4000000 in
set_option maxRecDepth 100000 in
/-- One element ahead. -/
theorem sym_one (w0 w : World) (b1 gd cap : Nat) (t : Addr) (x : List S106) (xs A L R T : List Int) (a m b : Nat) (N : Nat) (hin : SymIn x xs A L R T a m b) (hN : xs.length = N) (hS : Srt w0 w b1 gd cap t x xs) (hm : m = a + 1) (hmb : m < b) (hb : b ≤ N) (hlen : N ≤ 1000000000000) : SymDoes w0 b1 gd cap t x N w A L R T a m b := by
  unfold SymDoes
  have HS := Aside0.mk hS
  obtain ⟨ve, hve⟩ : ∃ ve, xs[a]? = some ve := ⟨_, List.getElem?_eq_getElem (by omega)⟩
  have hL : L = [ve] := by
    have hl1 : L.length = 1 := by have := hin.la; have := hin.lm; omega
    obtain ⟨l0, rfl⟩ := List.length_eq_one_iff.1 hl1
    have h1 := hve
    rw [hin.eq, List.getElem?_append_right (by have := hin.la; omega), show a - A.length = 0 by have := hin.la; omega] at h1
    simp at h1
    rw [h1]
  have hseg : SegS (cmpD x) xs m b := by
    have h1 := parts_seg (A := A ++ L) (T := T) hin.sr
    rw [List.length_append, hin.lm, show m + R.length = b by have := hin.lb; have := hin.lm; omega, List.append_assoc] at h1
    rw [hin.eq]; exact h1
  have hpe : NdS x ve := hin.nd ve (List.mem_of_getElem? hve)
  have HI := Aside0.mk (And.intro hin (And.intro hve (And.intro hL (And.intro hseg hpe))))
  clear hS hin hve hL hseg hpe
  have mixed : Try.prog.follows Departure.mixedOrders = true := by kernel_rfl
  have q1 : IntKind.i64.wrap ((m : Int) - (a : Int)) = 1 := by rw [IntWalk.i64_in _ (by omega)]; omega
  have ham : a < m := by omega
  clear hm
  go_enter Try.func123, Try.ntmps123
  go_wp2
  go_loopw [10, 11] (fun iv jv wr => ∃ (i j : Nat), iv = .int .i64 i ∧ jv = .int .i64 j ∧ m ≤ i ∧ i ≤ j ∧ j ≤ b ∧ Srt w0 wr b1 gd cap t x xs ∧ ((∀ h u, m ≤ h → h < i → xs[h]? = some u → Le (cmpD x) u ve) ∧ (∀ h u, j ≤ h → h < b → xs[h]? = some u → Le (cmpD x) ve u)) ∧ w.grownBy wr (some gd)) (fun iv jv wr => (intOf jv).toNat - (intOf iv).toNat)
  case atStart =>
    exact ⟨m, b, rfl, rfl, Nat.le_refl _, by omega, Nat.le_refl _, HS.out, ⟨fun h u h1 h2 => by omega, fun h u h1 h2 => by omega⟩, grownBy_refl _ _⟩
  case round =>
    obtain ⟨i, j, rfl, rfl, hi, hij, hj, hS, hbs, hg⟩ := hrel
    by_cases hlt : i < j
    · obtain ⟨va, hva⟩ : ∃ va, va = xs[(i + j) / 2]'(by omega) := ⟨_, rfl⟩
      obtain ⟨vb, hvb⟩ : ∃ vb, vb = xs[a]'(by omega) := ⟨_, rfl⟩
      have c1 := hS.at_ ((i + j) / 2) (by omega)
      have c0 := hS.at_ a (by omega)
      rw [← hva] at c1
      rw [← hvb] at c0
      have ia : (a : Int) < (N : Int) := by omega
      have ih : ((i : Int) + (j : Int)) / 2 < (N : Int) := by omega
      have iz : (0 : Int) ≤ ((i : Int) + (j : Int)) / 2 := by omega
      have it : (((i : Int) + (j : Int)) / 2).toNat = (i + j) / 2 := by omega
      have ihn : (i + j) / 2 < N := by omega
      have ev : vb = ve := by have h_ := HI.out.2.1; rw [List.getElem?_eq_getElem (by omega)] at h_; exact hvb.trans (Option.some.inj h_)
      have exa : xs[(i + j) / 2]? = some va := by rw [hva]; exact List.getElem?_eq_getElem _
      have HQ := Aside0.mk (And.intro hS hg)
      have HBS := Aside0.mk (And.intro hbs (And.intro ev exa))
      obtain ⟨r, hr⟩ : ∃ r, r = cmpD x va vb := ⟨_, rfl⟩
      have HRr := Aside0.mk hr
      clear hS hg hva hvb hr hbs ev exa
      go_wp2_with fail
      go_region_held3 (fun w' => w'.cell? ⟨gd, (i + j) / 2, none⟩ = some (.int .i64 va) ∧ w'.cell? ⟨gd, a, none⟩ = some (.int .i64 vb))
        (first | exact ⟨c1, c0⟩ | (exact ⟨cell_grows G2.out c1, cell_grows G2.out c0⟩) | go_keep)
        ((go_simp; go_at_call 81; refine (cmpD_calls _ _ b1 t x _ (HQ.out.1.tr.below (HQ.out.1.grows ((Grows.refl wr).drewN 1)).bw) (HQ.out.1.grows ((Grows.refl wr).drewN 1)).bx).mono ?_; rw [← HRr.out]; rintro e w2 ⟨rfl, hg2⟩; have G2 := Aside0.mk (((Grows.refl wr).drewN 1).trans hg2); clear hg2))
      have S2 := Aside0.mk (HQ.out.1.grows G2.out)
      have HG2 := Aside0.mk (HQ.out.2.trans (grows_grownTo G2.out (some gd)))
      by_cases hr0 : r < 0
      · have hd : decide (r < 0) = true := decide_eq_true hr0
        go_wp2
        go_roundw
        case rel => exact ⟨(i + j) / 2 + 1, j, by go_num, rfl, by omega, by omega, hj, S2.out, ⟨bs_left HI.out.1.ord HI.out.1.nd HI.out.2.2.2.2 HI.out.2.2.2.1 (by omega) (by omega) HBS.out.2.2 (HI.out.1.ord.le (HI.out.1.nd _ (List.mem_of_getElem? HBS.out.2.2)) HI.out.2.2.2.2 (by rw [← HBS.out.2.1, ← HRr.out]; exact hr0)), HBS.out.1.2⟩, HG2.out⟩
        case measure => simp [intOf]; omega
      · have hd : decide (r < 0) = false := decide_eq_false hr0
        go_wp2
        go_roundw
        case rel => exact ⟨i, (i + j) / 2, rfl, by go_num, hi, by omega, by omega, S2.out, ⟨HBS.out.1.1, bs_right HI.out.1.ord HI.out.1.nd HI.out.2.2.2.2 HI.out.2.2.2.1 (by omega) (by omega) HBS.out.2.2 (show ¬ cmpD x va ve < 0 by rw [← HBS.out.2.1, ← HRr.out]; exact hr0)⟩, HG2.out⟩
        case measure => simp [intOf]; omega
    · have q2 : IntKind.i64.wrap ((i : Int) - 1) = ((i - 1 : Nat) : Int) := by rw [IntWalk.i64_in _ (by omega)]; omega
      have HQ := Aside0.mk (And.intro hS (And.intro hbs hg))
      have hij' : ¬ ((i : Int) < (j : Int)) := by omega
      clear hS hg hbs
      go_wp2
      go_loopw [13] (fun kv wq => ∃ (k : Nat) (ys : List Int), kv = .int .i64 k ∧ a ≤ k ∧ k ≤ i - 1 ∧ Srt w0 wq b1 gd cap t x ys ∧ (ys = A ++ (R.take (k - a) ++ ve :: (R.drop (k - a) ++ T)) ∧ ys.length = N) ∧ w.grownBy wq (some gd)) (fun kv wq => i - (intOf kv).toNat)
      case atStart => exact ⟨a, xs, rfl, Nat.le_refl _, by omega, HQ.out.1, ⟨by rw [Nat.sub_self, HI.out.1.eq, HI.out.2.2.1]; rfl, hN⟩, HQ.out.2.2⟩
      case round =>
        obtain ⟨k, ys, rfl, hak, hki, hS, hp, hg⟩ := hrel
        have hyl : ys.length = N := hp.2
        have HYP := Aside0.mk hp
        clear hp
        by_cases hk : k < i - 1
        · obtain ⟨va, hva⟩ : ∃ va, va = ys[k]'(by omega) := ⟨_, rfl⟩
          obtain ⟨vb, hvb⟩ : ∃ vb, vb = ys[k + 1]'(by omega) := ⟨_, rfl⟩
          have c1 := hS.at_ k (by omega)
          have c0 := hS.at_ (k + 1) (by omega)
          rw [← hva] at c1
          rw [← hvb] at c0
          have y1 := hS.fz k
          have y0 := hS.fz (k + 1)
          have i1 : (k : Int) < (N : Int) := by omega
          have i2 : (k : Int) + 1 < (N : Int) := by omega
          have i3 : (k : Int) < ((i - 1 : Nat) : Int) := by omega
          have HZ := Aside0.mk (And.intro hS (And.intro HYP.out (And.intro hg (And.intro hva hvb))))
          clear hS hg hva hvb
          go_wp2
          go_region
          all_goals go_wp2
          all_goals (
            obtain ⟨hS, hp, hg, hva, hvb⟩ := HZ.out
            obtain ⟨s3, g3⟩ := hS.set k vb
            obtain ⟨s4, g4⟩ := s3.set (k + 1) va
            have hla := HI.out.1.la
            have hlm := HI.out.1.lm
            have hlb := HI.out.1.lb
            have hl1 : L.length = 1 := by rw [HI.out.2.2.1]; rfl
            refine ⟨⟨k + 1, swapL ys k (k + 1), by go_num, by omega, by omega, ?_, ⟨?_, by rw [swapL_len]; exact hp.2⟩, ?_⟩, by simp only [intOf]; omega⟩
            · rw [swapL_eq ys k (k + 1) (by omega) (by omega), ← hva, ← hvb]; exact s4.grows ((Grows.refl _).drewN 1)
            · have h_ := one_step A R T ve (k - a) (by omega)
              rw [show A.length + (k - a) = k by omega, show k - a + 1 = k + 1 - a by omega] at h_
              rw [hp.1]; exact h_
            · exact (hg.trans (g3.trans g4)).trans (grows_grownTo ((Grows.refl _).drewN 1) (some gd)))
        · have i3 : ¬ ((k : Int) < ((i - 1 : Nat) : Int)) := by omega
          have HZ := Aside0.mk (And.intro hS (And.intro HYP.out hg))
          clear hS hg
          go_wp2
          refine bodyPost_ret (results_none rfl _ _ _) rfl ?_
          have hla := HI.out.1.la
          have hlm := HI.out.1.lm
          have hlb := HI.out.1.lb
          have hl1 : L.length = 1 := by rw [HI.out.2.2.1]; rfl
          have hk1 : k - a = i - m := by omega
          have hat : ∀ q u, R[q]? = some u → xs[m + q]? = some u := fun q u hq => by
            have hql := (List.getElem?_eq_some_iff.1 hq).1
            rw [HI.out.1.eq, List.getElem?_append_right (by omega), List.getElem?_append_right (by omega), List.getElem?_append_left (by omega), ← hq]
            congr 1; omega
          have hM := ins_srtd (e := ve) HI.out.1.sr (k - a) (fun u hu => by
            obtain ⟨q, hq, rfl⟩ := List.getElem_of_mem hu
            rw [List.length_take] at hq
            rw [List.getElem_take]
            exact HQ.out.2.1.1 (m + q) _ (by omega) (by omega) (hat q _ (List.getElem?_eq_getElem (by omega)))) (fun u hu => by
            obtain ⟨q, hq, rfl⟩ := List.getElem_of_mem hu
            rw [List.length_drop] at hq
            rw [List.getElem_drop]
            exact HQ.out.2.1.2 (m + (k - a + q)) _ (by omega) (by omega) (hat _ _ (List.getElem?_eq_getElem (by omega))))
          refine ⟨rfl, R.take (k - a) ++ ve :: R.drop (k - a), ?_, ⟨by rw [HI.out.2.2.1]; exact hM.2, hM.1⟩, HZ.out.2.2⟩
          have h_ := HZ.out.1
          rw [HZ.out.2.1.1] at h_
          simpa using h_
set_option maxHeartbeats 4000000 in
set_option maxRecDepth 100000 in
/-- One element behind. -/
theorem sym_last (w0 w : World) (b1 gd cap : Nat) (t : Addr) (x : List S106) (xs A L R T : List Int) (a m b : Nat) (N : Nat) (hin : SymIn x xs A L R T a m b) (hN : xs.length = N) (hS : Srt w0 w b1 gd cap t x xs) (ham : a + 1 < m) (hm : b = m + 1) (hb : b ≤ N) (hlen : N ≤ 1000000000000) : SymDoes w0 b1 gd cap t x N w A L R T a m b := by
  unfold SymDoes
  have HS := Aside0.mk hS
  obtain ⟨ve, hve⟩ : ∃ ve, xs[m]? = some ve := ⟨_, List.getElem?_eq_getElem (by omega)⟩
  have hR : R = [ve] := by
    have hl1 : R.length = 1 := by have := hin.lb; have := hin.lm; omega
    obtain ⟨l0, rfl⟩ := List.length_eq_one_iff.1 hl1
    have h1 := hve
    rw [hin.eq, List.getElem?_append_right (by have := hin.lm; omega), List.getElem?_append_right (by have := hin.lm; omega), show m - A.length - L.length = 0 by have := hin.lm; omega] at h1
    simp at h1
    rw [h1]
  have hseg : SegS (cmpD x) xs a m := by
    have h1 := parts_seg (A := A) (T := R ++ T) hin.sl
    rw [hin.lm, hin.la] at h1
    rw [hin.eq]; exact h1
  have hpe : NdS x ve := hin.nd ve (List.mem_of_getElem? hve)
  have HI := Aside0.mk (And.intro hin (And.intro hve (And.intro hR (And.intro hseg hpe))))
  clear hS hin hve hR hseg hpe
  have mixed : Try.prog.follows Departure.mixedOrders = true := by kernel_rfl
  obtain ⟨d, hd⟩ : ∃ d, d = m - a := ⟨_, rfl⟩
  have q1 : IntKind.i64.wrap ((m : Int) - (a : Int)) = (d : Int) := by rw [IntWalk.i64_in _ (by omega)]; omega
  have q2 : ¬ ((d : Int) = 1) := by omega
  have q2b : ((d : Int) == 1) = false := by simp; omega
  have q2c : ¬ (d = 1) := by omega
  have q3 : IntKind.i64.wrap ((b : Int) - (m : Int)) = 1 := by rw [IntWalk.i64_in _ (by omega)]; omega
  have hmb : m < b := by omega
  have hda : a < m := by omega
  clear hm hd ham
  go_enter Try.func123, Try.ntmps123
  go_wp2
  go_loopw [14, 15] (fun iv jv wr => ∃ (i j : Nat), iv = .int .i64 i ∧ jv = .int .i64 j ∧ a ≤ i ∧ i ≤ j ∧ j ≤ m ∧ Srt w0 wr b1 gd cap t x xs ∧ ((∀ h u, a ≤ h → h < i → xs[h]? = some u → Le (cmpD x) u ve) ∧ (∀ h u, j ≤ h → h < m → xs[h]? = some u → Le (cmpD x) ve u)) ∧ w.grownBy wr (some gd)) (fun iv jv wr => (intOf jv).toNat - (intOf iv).toNat)
  case atStart =>
    exact ⟨a, m, rfl, rfl, Nat.le_refl _, by omega, Nat.le_refl _, HS.out, ⟨fun h u h1 h2 => by omega, fun h u h1 h2 => by omega⟩, grownBy_refl _ _⟩
  case round =>
    obtain ⟨i, j, rfl, rfl, hi, hij, hj, hS, hbs, hg⟩ := hrel
    by_cases hlt : i < j
    · obtain ⟨vb, hvb⟩ : ∃ vb, vb = xs[(i + j) / 2]'(by omega) := ⟨_, rfl⟩
      obtain ⟨va, hva⟩ : ∃ va, va = xs[m]'(by omega) := ⟨_, rfl⟩
      have c0 := hS.at_ ((i + j) / 2) (by omega)
      have c1 := hS.at_ m (by omega)
      rw [← hva] at c1
      rw [← hvb] at c0
      have ia : (m : Int) < (N : Int) := by omega
      have ih : ((i : Int) + (j : Int)) / 2 < (N : Int) := by omega
      have iz : (0 : Int) ≤ ((i : Int) + (j : Int)) / 2 := by omega
      have it : (((i : Int) + (j : Int)) / 2).toNat = (i + j) / 2 := by omega
      have ihn : (i + j) / 2 < N := by omega
      have ev : va = ve := by have h_ := HI.out.2.1; rw [List.getElem?_eq_getElem (by omega)] at h_; exact hva.trans (Option.some.inj h_)
      have exb : xs[(i + j) / 2]? = some vb := by rw [hvb]; exact List.getElem?_eq_getElem _
      have HQ := Aside0.mk (And.intro hS hg)
      have HBS := Aside0.mk (And.intro hbs (And.intro ev exb))
      obtain ⟨r, hr⟩ : ∃ r, r = cmpD x va vb := ⟨_, rfl⟩
      have HRr := Aside0.mk hr
      clear hS hg hva hvb hr hbs ev exb
      go_wp2_with fail
      go_region_held3 (fun w' => w'.cell? ⟨gd, m, none⟩ = some (.int .i64 va) ∧ w'.cell? ⟨gd, (i + j) / 2, none⟩ = some (.int .i64 vb))
        (first | exact ⟨c1, c0⟩ | (exact ⟨cell_grows G2.out c1, cell_grows G2.out c0⟩) | go_keep)
        ((go_simp; go_at_call 81; refine (cmpD_calls _ _ b1 t x _ (HQ.out.1.tr.below (HQ.out.1.grows ((Grows.refl wr).drewN 1)).bw) (HQ.out.1.grows ((Grows.refl wr).drewN 1)).bx).mono ?_; rw [← HRr.out]; rintro e w2 ⟨rfl, hg2⟩; have G2 := Aside0.mk (((Grows.refl wr).drewN 1).trans hg2); clear hg2))
      have S2 := Aside0.mk (HQ.out.1.grows G2.out)
      have HG2 := Aside0.mk (HQ.out.2.trans (grows_grownTo G2.out (some gd)))
      obtain ⟨bb, hbb⟩ : ∃ bb, decide (r < 0) = bb := ⟨_, rfl⟩
      have hbb2 : decide (0 ≤ r) = !bb := by
        rw [← hbb]
        by_cases h0 : r < 0
        · simp [h0]
        · simp [h0]; omega
      have HBB := Aside0.mk hbb
      simp only [hbb, hbb2]
      clear hbb hbb2
      cases bb with
      | true =>
        go_wp2
        go_roundw
        case rel => exact ⟨i, (i + j) / 2, rfl, by go_num, hi, by omega, by omega, S2.out, ⟨HBS.out.1.1, bs_right HI.out.1.ord HI.out.1.nd HI.out.2.2.2.2 HI.out.2.2.2.1 (by omega) (by omega) HBS.out.2.2 (HI.out.1.ord.le HI.out.2.2.2.2 (HI.out.1.nd _ (List.mem_of_getElem? HBS.out.2.2)) (by rw [← HBS.out.2.1, ← HRr.out]; exact of_decide_eq_true HBB.out))⟩, HG2.out⟩
        case measure => simp [intOf]; omega
      | false =>
        go_wp2
        go_roundw
        case rel => exact ⟨(i + j) / 2 + 1, j, by go_num, rfl, by omega, by omega, hj, S2.out, ⟨bs_left HI.out.1.ord HI.out.1.nd HI.out.2.2.2.2 HI.out.2.2.2.1 (by omega) (by omega) HBS.out.2.2 (show ¬ cmpD x ve vb < 0 by rw [← HBS.out.2.1, ← HRr.out]; exact of_decide_eq_false HBB.out), HBS.out.1.2⟩, HG2.out⟩
        case measure => simp [intOf]; omega
    · have HQ := Aside0.mk (And.intro hS (And.intro hbs hg))
      have hij' : ¬ ((i : Int) < (j : Int)) := by omega
      clear hS hg hbs
      go_wp2
      go_loopw [17] (fun kv wq => ∃ (k : Nat) (ys : List Int), kv = .int .i64 k ∧ i ≤ k ∧ k ≤ m ∧ Srt w0 wq b1 gd cap t x ys ∧ (ys = A ++ (L.take (k - a) ++ ve :: (L.drop (k - a) ++ T)) ∧ ys.length = N) ∧ w.grownBy wq (some gd)) (fun kv wq => (intOf kv).toNat)
      case atStart =>
        have hla := HI.out.1.la
        have hlm := HI.out.1.lm
        exact ⟨m, xs, rfl, by omega, Nat.le_refl _, HQ.out.1, ⟨by rw [HI.out.1.eq, HI.out.2.2.1, List.take_of_length_le (by omega), List.drop_of_length_le (by omega)]; rfl, hN⟩, HQ.out.2.2⟩
      case round =>
        obtain ⟨k0, ys, rfl, hik, hkm, hS, hp, hg⟩ := hrel
        have hyl : ys.length = N := hp.2
        have HYP := Aside0.mk hp
        clear hp
        by_cases hk : i < k0
        · obtain ⟨k, rfl⟩ : ∃ k, k0 = k + 1 := ⟨k0 - 1, by omega⟩
          obtain ⟨va, hva⟩ : ∃ va, va = ys[k + 1]'(by omega) := ⟨_, rfl⟩
          obtain ⟨vb, hvb⟩ : ∃ vb, vb = ys[k]'(by omega) := ⟨_, rfl⟩
          have c1 := hS.at_ (k + 1) (by omega)
          have c0 := hS.at_ k (by omega)
          rw [← hva] at c1
          rw [← hvb] at c0
          have y1 := hS.fz (k + 1)
          have y0 := hS.fz k
          have i1 : (k : Int) < (N : Int) := by omega
          have i2 : (k : Int) + 1 < (N : Int) := by omega
          have i3 : (i : Int) < (k : Int) + 1 := by omega
          have i6 : IntKind.i64.wrap ((k : Int) + 1 - 1) = (k : Int) := by rw [IntWalk.i64_in _ (by omega)]; omega
          have i7 : IntKind.i64.wrap (k : Int) = (k : Int) := IntWalk.i64_in _ (by omega)
          have HZ := Aside0.mk (And.intro hS (And.intro HYP.out (And.intro hg (And.intro hva hvb))))
          clear hS hg hva hvb
          go_wp2
          go_region
          all_goals go_wp2
          all_goals (
            obtain ⟨hS, hp, hg, hva, hvb⟩ := HZ.out
            obtain ⟨s3, g3⟩ := hS.set (k + 1) vb
            obtain ⟨s4, g4⟩ := s3.set k va
            have hla := HI.out.1.la
            have hlm := HI.out.1.lm
            refine ⟨⟨k, swapL ys (k + 1) k, by first | rfl | go_num, by omega, by omega, ?_, ⟨?_, by rw [swapL_len]; exact hp.2⟩, ?_⟩, by simp only [intOf]; omega⟩
            · rw [swapL_eq ys (k + 1) k (by omega) (by omega), ← hva, ← hvb]; exact s4.grows ((Grows.refl _).drewN 1)
            · have h_ := last_step A L T ve (k - a) (by omega)
              rw [show A.length + (k - a) + 1 = k + 1 by omega, show A.length + (k - a) = k by omega, show k - a + 1 = k + 1 - a by omega] at h_
              rw [hp.1]; exact h_
            · exact (hg.trans (g3.trans g4)).trans (grows_grownTo ((Grows.refl _).drewN 1) (some gd)))
        · have i3 : ¬ ((i : Int) < (k0 : Int)) := by omega
          have HZ := Aside0.mk (And.intro hS (And.intro HYP.out hg))
          clear hS hg
          go_wp2
          refine bodyPost_ret (results_none rfl _ _ _) rfl ?_
          have hla := HI.out.1.la
          have hlm := HI.out.1.lm
          have hki : k0 = i := by omega
          have hat : ∀ q u, L[q]? = some u → xs[a + q]? = some u := fun q u hq => by
            have hql := (List.getElem?_eq_some_iff.1 hq).1
            rw [HI.out.1.eq, List.getElem?_append_right (by omega), List.getElem?_append_left (by omega), ← hq]
            congr 1; omega
          have hM := ins_srtd (e := ve) HI.out.1.sl (k0 - a) (fun u hu => by
            obtain ⟨q, hq, rfl⟩ := List.getElem_of_mem hu
            rw [List.length_take] at hq
            rw [List.getElem_take]
            exact HQ.out.2.1.1 (a + q) _ (by omega) (by omega) (hat q _ (List.getElem?_eq_getElem (by omega)))) (fun u hu => by
            obtain ⟨q, hq, rfl⟩ := List.getElem_of_mem hu
            rw [List.length_drop] at hq
            rw [List.getElem_drop]
            exact HQ.out.2.1.2 (a + (k0 - a + q)) _ (by omega) (by omega) (hat _ _ (List.getElem?_eq_getElem (by omega))))
          refine ⟨rfl, L.take (k0 - a) ++ ve :: L.drop (k0 - a), ?_, ⟨by rw [HI.out.2.2.1]; exact hM.2.trans (show ([ve] ++ L).Perm (L ++ [ve]) from List.perm_append_comm), hM.1⟩, HZ.out.2.2⟩
          have h_ := HZ.out.1
          rw [HZ.out.2.1.1] at h_
          simpa using h_
end Go.Proofs.Ytgfmplhpoblleaa.FailW
end
section
/- slices.SortStableFunc: symMerge, whole. -/
namespace Go.Proofs.Ytgfmplhpoblleaa.FailW
open Go.RowKit Go.Shelf Go.Lib Go.Proofs Go.Proofs.YtgfmplhpoblleaaW.PrintWords Go.Proofs.YtgfmplhpoblleaaW.PrintLast Go.Proofs.YtgfmplhpoblleaaW.PrintMore Go.Proofs.Ytgfmplhpoblleaa.PRank Go.Proofs.Ytgfmplhpoblleaa.PFB Go.Proofs.Ytgfmplhpoblleaa.RankW Go.Proofs.Ytgfmplhpoblleaa.SortOwn Go.Proofs.Ytgfmplhpoblleaa
open Go.Proofs.Ytgfmplhpoblleaa.Cmps hiding dedup
set_option linter.unusedVariables false
set_option linter.unusedSimpArgs false

set_option maxHeartbeats 8000000 in
set_option maxRecDepth 100000 in
theorem sym_gen1 (w0 w : World) (b1 gd cap : Nat) (t : Addr) (x : List S106) (xs A L R T : List Int) (a m b md : Nat) (N : Nat) (hin : SymIn x xs A L R T a m b) (hN : xs.length = N) (hS : Srt w0 w b1 gd cap t x xs) (ham : a + 1 < m) (hmb : m + 1 < b) (hb : b ≤ N) (hlen : N ≤ 1000000000000) (hmd : md = (a + b) / 2) (hc : md < m)
    (ih : ∀ (w : World) (xs A L R T : List Int) (a' m' b' : Nat), SymIn x xs A L R T a' m' b' → xs.length = N → Srt w0 w b1 gd cap t x xs → a' < m' → m' < b' → b' ≤ N → b' - a' < b - a → SymDoes w0 b1 gd cap t x N w A L R T a' m' b') : SymDoes w0 b1 gd cap t x N w A L R T a m b := by
  unfold SymDoes
  have HS := Aside0.mk hS
  have IH := Aside0.mk ih
  have HI := Aside0.mk hin
  clear hS ih hin
  have mixed : Try.prog.follows Departure.mixedOrders = true := by kernel_rfl
  obtain ⟨d, hd⟩ : ∃ d, d = m - a := ⟨_, rfl⟩
  have q1 : IntKind.i64.wrap ((m : Int) - (a : Int)) = (d : Int) := by rw [IntWalk.i64_in _ (by omega)]; omega
  have q2 : ¬ ((d : Int) = 1) := by omega
  have q2b : ((d : Int) == 1) = false := by simp; omega
  have q2c : ¬ (d = 1) := by omega
  obtain ⟨d', hd'⟩ : ∃ d', d' = b - m := ⟨_, rfl⟩
  have q3 : IntKind.i64.wrap ((b : Int) - (m : Int)) = (d' : Int) := by rw [IntWalk.i64_in _ (by omega)]; omega
  have q4 : ¬ ((d' : Int) = 1) := by omega
  have q4b : ((d' : Int) == 1) = false := by simp; omega
  have q4c : ¬ (d' = 1) := by omega
  obtain ⟨nn, hnn⟩ : ∃ nn, nn = md + m := ⟨_, rfl⟩
  obtain ⟨pp, hpp⟩ : ∃ pp, pp + 1 = nn := ⟨nn - 1, by omega⟩
  have q5 : ((a : Int) + (b : Int)) / 2 = (md : Int) := by omega
  have q6 : IntKind.i64.wrap ((md : Int) + (m : Int)) = (nn : Int) := by rw [IntWalk.i64_in _ (by omega)]; omega
  have q7 : IntKind.i64.wrap ((nn : Int) - 1) = (pp : Int) := by rw [IntWalk.i64_in _ (by omega)]; omega
  have q0 : IntKind.i64.wrap ((a : Int) + (b : Int)) = (a : Int) + (b : Int) := IntWalk.i64_in _ (by omega)
  obtain ⟨lo, hlo⟩ : ∃ lo, lo + b = nn := ⟨nn - b, by omega⟩
  have q8 : IntKind.i64.wrap ((nn : Int) - (b : Int)) = (lo : Int) := by rw [IntWalk.i64_in _ (by omega)]; omega
  obtain ⟨hi, hhi⟩ : ∃ hi, hi = md := ⟨_, rfl⟩
  have qc : (md : Int) < (m : Int) := by omega
  have qcn : md < m := hc
  have n1 : a ≤ 1000000000000 := by omega
  have n2 : b ≤ 1000000000000 := by omega
  have n3 : m ≤ 1000000000000 := by omega
  have n4 : md ≤ 1000000000000 := by omega
  have f1 : lo ≤ hi := by omega
  have f2 : ∀ c, lo ≤ c → c < hi → c ≤ pp ∧ pp - c < N := fun c h1 h2 => by omega
  have f3 : ∀ c, lo ≤ c → c ≤ hi → c ≤ nn ∧ nn - c ≤ b ∧ c ≤ N := fun c h1 h2 => by omega
  have f4 : hi ≤ N := by omega
  have F := Aside0.mk (And.intro f2 (And.intro f3 (And.intro hmd (And.intro hc (And.intro hd (And.intro hd' (And.intro hnn (And.intro hpp (And.intro hlo (And.intro hhi (And.intro ham hmb)))))))))))
  clear f2 f3 hmd hc hd hd' hnn hpp hlo hhi ham hmb
  go_enter Try.func123, Try.ntmps123
  go_wp2
  go_loopw [20, 21] (fun iv jv wr => ∃ (st rr : Nat), iv = .int .i64 st ∧ jv = .int .i64 rr ∧ lo ≤ st ∧ st ≤ rr ∧ rr ≤ hi ∧ Srt w0 wr b1 gd cap t x xs ∧ ((lo < st → ∀ u v, xs[st - 1]? = some u → xs[nn - st]? = some v → Le (cmpD x) u v) ∧ (rr < hi → ∀ u v, xs[nn - rr - 1]? = some u → xs[rr]? = some v → Le (cmpD x) u v)) ∧ w.grownBy wr (some gd)) (fun iv jv wr => (intOf jv).toNat - (intOf iv).toNat)
  case atStart =>
    exact ⟨lo, md, by first | rfl | go_num, by first | rfl | go_num, by have h2 := F.out.2.2; omega, by have h2 := F.out.2.2; omega, by have h2 := F.out.2.2; omega, HS.out, ⟨fun h_ => by have h2 := F.out.2.2; omega, fun h_ => by have h2 := F.out.2.2; omega⟩, grownBy_refl _ _⟩
  case round =>
    obtain ⟨st, rr, rfl, rfl, hi1, hij, hj, hS, hbs, hg⟩ := hrel
    by_cases hlt : st < rr
    · as_aux_lemma =>
      obtain ⟨c, hcc⟩ : ∃ c, c = (st + rr) / 2 := ⟨_, rfl⟩
      obtain ⟨g1, g2⟩ := F.out.1 c (by omega) (by omega)
      obtain ⟨dd, hdd⟩ : ∃ dd, dd = pp - c := ⟨_, rfl⟩
      have e1 : ((st : Int) + (rr : Int)) / 2 = (c : Int) := by omega
      have e2 : IntKind.i64.wrap ((pp : Int) - (c : Int)) = (dd : Int) := by rw [IntWalk.i64_in _ (by omega)]; omega
      have hcN : c < N := by omega
      have hdN : dd < N := by omega
      obtain ⟨va, hva⟩ : ∃ va, va = xs[dd]'(by omega) := ⟨_, rfl⟩
      obtain ⟨vb, hvb⟩ : ∃ vb, vb = xs[c]'(by omega) := ⟨_, rfl⟩
      have c1 := hS.at_ dd (by omega)
      have c0 := hS.at_ c (by omega)
      rw [← hva] at c1
      rw [← hvb] at c0
      have ia : (dd : Int) < (N : Int) := by omega
      have ih : (c : Int) < (N : Int) := by omega
      have HQ := Aside0.mk (And.intro hS (And.intro hg hcc))
      have exa : xs[dd]? = some va := by rw [hva]; exact List.getElem?_eq_getElem _
      have exb : xs[c]? = some vb := by rw [hvb]; exact List.getElem?_eq_getElem _
      have edd : dd = nn - c - 1 := by have h2 := F.out.2.2; omega
      have HBS := Aside0.mk (And.intro hbs (And.intro exa (And.intro exb edd)))
      obtain ⟨r, hr⟩ : ∃ r, r = cmpD x va vb := ⟨_, rfl⟩
      have HRr := Aside0.mk hr
      clear hS hg hva hvb hr hcc hdd hbs exa exb edd
      go_wp2_with fail
      go_region_held3 (fun w' => w'.cell? ⟨gd, dd, none⟩ = some (.int .i64 va) ∧ w'.cell? ⟨gd, c, none⟩ = some (.int .i64 vb))
        (first | exact ⟨c1, c0⟩ | (exact ⟨cell_grows G2.out c1, cell_grows G2.out c0⟩) | go_keep)
        ((go_simp; go_at_call 81; refine (cmpD_calls _ _ b1 t x _ (HQ.out.1.tr.below (HQ.out.1.grows ((Grows.refl wr).drewN 1)).bw) (HQ.out.1.grows ((Grows.refl wr).drewN 1)).bx).mono ?_; rw [← HRr.out]; rintro e w2 ⟨rfl, hg2⟩; have G2 := Aside0.mk (((Grows.refl wr).drewN 1).trans hg2); clear hg2))
      have S2 := Aside0.mk (HQ.out.1.grows G2.out)
      have HG2 := Aside0.mk (HQ.out.2.1.trans (grows_grownTo G2.out (some gd)))
      obtain ⟨bb, hbb⟩ : ∃ bb, decide (r < 0) = bb := ⟨_, rfl⟩
      have hbb2 : decide (0 ≤ r) = !bb := by
        rw [← hbb]
        by_cases h0 : r < 0
        · simp [h0]
        · simp [h0]; omega
      have HBB := Aside0.mk hbb
      simp only [hbb, hbb2]
      clear hbb hbb2
      cases bb with
      | true =>
        go_wp2
        go_roundw
        case rel => exact ⟨st, c, rfl, by first | rfl | go_num, hi1, by have := HQ.out.2.2; omega, by have := HQ.out.2.2; omega, S2.out, ⟨HBS.out.1.1, fun _ u v hu hv => by have h4 := HBS.out.2.2.2; rw [← h4, HBS.out.2.1] at hu; rw [HBS.out.2.2.1] at hv; obtain rfl := Option.some.inj hu; obtain rfl := Option.some.inj hv; exact HI.out.ord.le (HI.out.nd _ (List.mem_of_getElem? HBS.out.2.1)) (HI.out.nd _ (List.mem_of_getElem? HBS.out.2.2.1)) (by rw [← HRr.out]; exact of_decide_eq_true HBB.out)⟩, HG2.out⟩
        case measure => have := HQ.out.2.2; simp [intOf]; omega
      | false =>
        go_wp2
        go_roundw
        case rel => exact ⟨c + 1, rr, by go_num, rfl, by have := HQ.out.2.2; omega, by have := HQ.out.2.2; omega, hj, S2.out, ⟨fun _ u v hu hv => by have h4 := HBS.out.2.2.2; rw [Nat.add_sub_cancel, HBS.out.2.2.1] at hu; rw [show nn - (c + 1) = dd by omega, HBS.out.2.1] at hv; obtain rfl := Option.some.inj hu; obtain rfl := Option.some.inj hv; exact show ¬ cmpD x _ _ < 0 by rw [← HRr.out]; exact of_decide_eq_false HBB.out, HBS.out.1.2⟩, HG2.out⟩
        case measure => have := HQ.out.2.2; simp [intOf]; omega
    · have hsr : st = rr := by omega
      obtain ⟨k1, k2, k3⟩ := F.out.2.1 st hi1 (by omega)
      obtain ⟨en, hen⟩ : ∃ en, en = nn - st := ⟨_, rfl⟩
      have e6 : IntKind.i64.wrap ((nn : Int) - (st : Int)) = (en : Int) := by rw [IntWalk.i64_in _ (by omega)]; omega
      have hlt' : ¬ ((st : Int) < (rr : Int)) := by omega
      have hla := HI.out.la
      have hlm := HI.out.lm
      have hlb := HI.out.lb
      obtain ⟨L1, L2, R1, R2, s1, s2, s3, s4, s5, s6⟩ := sym_split HI.out.ord (A := A) (L := L) (R := R) (T := T) (by rw [← HI.out.eq]; exact HI.out.nd) HI.out.sl HI.out.sr (st := st) (en := en) (by have h2 := F.out.2.2; omega) (by have h2 := F.out.2.2; omega) (by have h2 := F.out.2.2; omega) (by have h2 := F.out.2.2; omega)
        (fun g1 g2 u v hu hv => hbs.1 (by have h2 := F.out.2.2; omega) u v (by rw [HI.out.eq]; exact hu) (by rw [HI.out.eq, ← hen]; exact hv))
        (fun g1 g2 u v hu hv => hbs.2 (by have h2 := F.out.2.2; omega) u v (by rw [HI.out.eq, ← hsr, ← hen]; exact hu) (by rw [HI.out.eq, ← hsr]; exact hv))
      have hmd2 : A.length + L1.length + R1.length = md := by have h2 := F.out.2.2; omega
      have HQ := Aside0.mk (And.intro hS hg)
      have HE := Aside0.mk (And.intro hen (And.intro k1 (And.intro k2 k3)))
      have hsl := HI.out.sl
      have hsr2 := HI.out.sr
      rw [s1] at hsl
      rw [s2] at hsr2
      have heq := HI.out.eq
      rw [s1, s2] at heq
      simp only [List.append_assoc] at heq
      have lL : L.length = L1.length + L2.length := by rw [s1, List.length_append]
      have lR : R.length = R1.length + R2.length := by rw [s2, List.length_append]
      have HSP := Aside0.mk (And.intro s1 (And.intro s2 (And.intro s3 (And.intro s4 (And.intro s5 (And.intro s6 (And.intro hmd2 (And.intro hsl (And.intro hsr2 (And.intro heq (And.intro lL (And.intro lR (And.intro hla (And.intro hlm hlb))))))))))))))
      clear hS hg hsr hen k1 k2 k3 hbs s1 s2 s3 s4 s5 s6 hmd2 hla hlm hlb hsl hsr2 heq lL lR
      go_upto_region 39 with fail
      have hAdec : ∀ p q : Prop, [Decidable p] → [Decidable q] → True := fun _ _ => trivial
      obtain ⟨bA, hbA⟩ : ∃ bA, bA = (decide (st < m) && decide (m < en)) := ⟨_, rfl⟩
      have HbA := Aside0.mk hbA
      clear hbA hAdec
      go_cut [185] (fun v wx => v = .bool bA ∧ wx = wr)
      case first => as_aux_lemma =>
        by_cases hA1 : st < m
        · by_cases hA2 : m < en
          · have z1 : (st : Int) < (m : Int) := by omega
            have z2 : (m : Int) < (en : Int) := by omega
            go_wp2
            go_meet
            exact ⟨by rw [HbA.out]; simp [hA1, hA2], rfl⟩
          · have z1 : (st : Int) < (m : Int) := by omega
            have z2 : ¬ ((m : Int) < (en : Int)) := by omega
            go_wp2
            go_meet
            exact ⟨by rw [HbA.out]; simp [hA1, hA2], rfl⟩
        · have z1 : ¬ ((st : Int) < (m : Int)) := by omega
          go_wp2
          go_meet
          exact ⟨by rw [HbA.out]; simp [hA1], rfl⟩
      case rest =>
        obtain ⟨rfl, rfl⟩ := hcut
        go_upto_if 185 with fail
        go_cut [] (fun wx => Srt w0 wx b1 gd cap t x (A ++ (L1 ++ (R1 ++ (L2 ++ (R2 ++ T))))) ∧ w.grownBy wx (some gd))
        case first => as_aux_lemma =>
          cases hq : bA with
          | true =>
            have hcond : st < m ∧ m < en := by have h_ := HbA.out; rw [hq] at h_; simpa using h_.symm
            have HCo := Aside0.mk hcond
            clear hcond hq
            go_wp2_with ((go_at_call 141; refine (rot_calls w0 _ b1 gd cap t x xs (A ++ L1) L2 R1 (R2 ++ T) (by have h_ := HSP.out; rw [h_.2.2.2.2.2.2.2.2.2.1]; simp only [List.append_assoc]) st m en (by have h_ := HSP.out; rw [List.length_append]; omega) (by have h_ := HSP.out; rw [List.length_append]; omega) (by have h_ := HSP.out; rw [List.length_append]; omega) _ N hN HQ.out.1 HCo.out.1 HCo.out.2 (by have h_ := HE.out; omega) hlen).mono ?_; rintro e w2 ⟨rfl, hz2, hzg⟩; have HZ := Aside0.mk (And.intro hz2 hzg); clear hz2 hzg))
            go_meet
            exact ⟨by have h_ := HZ.out.1; simp only [List.append_assoc] at h_; exact h_, HQ.out.2.trans HZ.out.2⟩
          | false =>
            have hcond : ¬ (st < m ∧ m < en) := by have h_ := HbA.out; rw [hq] at h_; simpa using h_.symm
            have hx : xs = A ++ (L1 ++ (R1 ++ (L2 ++ (R2 ++ T)))) := by
              have h_ := HSP.out
              rw [h_.2.2.2.2.2.2.2.2.2.1]
              by_cases hl2 : L2.length = 0
              · rw [List.length_eq_zero_iff.1 hl2]; rfl
              · have hr1 : R1.length = 0 := by omega
                rw [List.length_eq_zero_iff.1 hr1]; rfl
            have HX0 := Aside0.mk hx
            clear hq hcond hx
            go_wp2
            go_meet
            exact ⟨by rw [← HX0.out]; exact HQ.out.1, HQ.out.2⟩
        case rest =>
          obtain ⟨hs_, hg_⟩ := hcut
          have HY1 := Aside0.mk (And.intro hs_ hg_)
          clear hs_ hg_
          go_upto_region 41 with fail
          obtain ⟨bB, hbB⟩ : ∃ bB, bB = (decide (a < st) && decide (st < md)) := ⟨_, rfl⟩
          have HbB := Aside0.mk hbB
          clear hbB
          go_cut [199] (fun v wx => v = .bool bB ∧ wx = wc)
          case first => as_aux_lemma =>
            by_cases h1 : a < st
            · by_cases h2 : st < md
              · have z1 : (a : Int) < (st : Int) := by omega
                have z2 : ((st : Int) < (md : Int)) := by omega
                go_wp2
                go_meet
                exact ⟨by rw [HbB.out]; simp [h1, h2], rfl⟩
              · have z1 : (a : Int) < (st : Int) := by omega
                have z2 : ¬ ((st : Int) < (md : Int)) := by omega
                go_wp2
                go_meet
                exact ⟨by rw [HbB.out]; simp [h1, h2], rfl⟩
            · have z1 : ¬ ((a : Int) < (st : Int)) := by omega
              go_wp2
              go_meet
              exact ⟨by rw [HbB.out]; simp [h1], rfl⟩
          case rest =>
            obtain ⟨rfl, rfl⟩ := hcut
            go_upto_if 199 with fail
            go_cut [] (fun wx => ∃ M1 : List Int, Srt w0 wx b1 gd cap t x (A ++ (M1 ++ (L2 ++ (R2 ++ T)))) ∧ (M1.Perm (L1 ++ R1) ∧ Srtd (cmpD x) M1) ∧ w.grownBy wx (some gd))
            case first => as_aux_lemma =>
              cases hq : bB with
              | true =>
                have hcond : a < st ∧ st < md := by have h_ := HbB.out; rw [hq] at h_; simpa using h_.symm
                have HCo := Aside0.mk hcond
                clear hcond hq
                have hxp : (A ++ (L1 ++ (R1 ++ (L2 ++ (R2 ++ T))))).Perm xs := by have h_ := HSP.out; rw [h_.2.2.2.2.2.2.2.2.2.1]; refine List.Perm.append_left _ (List.Perm.append_left _ ?_); rw [← List.append_assoc, ← List.append_assoc L2]; exact List.Perm.append_right _ List.perm_append_comm
                have hI := IH.out _ _ A L1 R1 (L2 ++ (R2 ++ T)) a st md ⟨HI.out.ord, fun u hu => HI.out.nd u (hxp.mem_iff.1 hu), rfl, by have h_ := HSP.out; omega, by have h_ := HSP.out; omega, by have h_ := HSP.out; omega, (srtd_app.1 HSP.out.2.2.2.2.2.2.2.1).1, (srtd_app.1 HSP.out.2.2.2.2.2.2.2.2.1).1⟩ (hxp.length_eq.trans hN) HY1.out.1 HCo.out.1 HCo.out.2 (by have h_ := HE.out; have h2 := F.out.2.2; have h3 := HCo.out; omega) (by have h_ := HE.out; have h2 := F.out.2.2; have h3 := HCo.out; omega)
                unfold SymDoes at hI
                have HII := Aside0.mk hI
                clear hI hxp
                go_wp2_with ((go_at_call 123; refine HII.out.mono ?_; rintro e w2 ⟨rfl, zs, hz2, hzp, hzg⟩; have HZ := Aside0.mk (And.intro hz2 (And.intro hzp hzg)); clear hz2 hzp hzg))
                go_meet
                exact ⟨zs, HZ.out.1, HZ.out.2.1, HY1.out.2.trans HZ.out.2.2⟩
              | false =>
                have hcond : ¬ (a < st ∧ st < md) := by have h_ := HbB.out; rw [hq] at h_; simpa using h_.symm
                have hx : Srtd (cmpD x) (L1 ++ R1) := by
                  have h_ := HSP.out
                  by_cases hl1 : L1.length = 0
                  · rw [List.length_eq_zero_iff.1 hl1]; exact (srtd_app.1 h_.2.2.2.2.2.2.2.2.1).1
                  · have hr1 : R1.length = 0 := by omega
                    rw [List.length_eq_zero_iff.1 hr1, List.append_nil]; exact (srtd_app.1 h_.2.2.2.2.2.2.2.1).1
                have HX0 := Aside0.mk hx
                clear hq hcond hx
                go_wp2
                go_meet
                exact ⟨L1 ++ R1, by rw [List.append_assoc]; exact HY1.out.1, ⟨List.Perm.refl _, HX0.out⟩, HY1.out.2⟩
            case rest =>
              obtain ⟨M1, hs_, hp_, hg_⟩ := hcut
              have HY2 := Aside0.mk (And.intro hs_ (And.intro hp_ hg_))
              clear hs_ hp_ hg_
              go_upto_region 43 with fail
              obtain ⟨bC, hbC⟩ : ∃ bC, bC = (decide (md < en) && decide (en < b)) := ⟨_, rfl⟩
              have HbC := Aside0.mk hbC
              clear hbC
              go_cut [213] (fun v wx => v = .bool bC ∧ wx = wc)
              case first => as_aux_lemma =>
                by_cases h1 : md < en
                · by_cases h2 : en < b
                  · have z1 : (md : Int) < (en : Int) := by omega
                    have z2 : ((en : Int) < (b : Int)) := by omega
                    go_wp2
                    go_meet
                    exact ⟨by rw [HbC.out]; simp [h1, h2], rfl⟩
                  · have z1 : (md : Int) < (en : Int) := by omega
                    have z2 : ¬ ((en : Int) < (b : Int)) := by omega
                    go_wp2
                    go_meet
                    exact ⟨by rw [HbC.out]; simp [h1, h2], rfl⟩
                · have z1 : ¬ ((md : Int) < (en : Int)) := by omega
                  go_wp2
                  go_meet
                  exact ⟨by rw [HbC.out]; simp [h1], rfl⟩
              case rest =>
                obtain ⟨rfl, rfl⟩ := hcut
                cases hq : bC with
                | true => as_aux_lemma =>
                  have hcond : md < en ∧ en < b := by have h_ := HbC.out; rw [hq] at h_; simpa using h_.symm
                  have HCo := Aside0.mk hcond
                  clear hcond hq
                  have hxp : ((A ++ M1) ++ (L2 ++ (R2 ++ T))).Perm xs := by have h_ := HSP.out; rw [h_.2.2.2.2.2.2.2.2.2.1, List.append_assoc]; refine List.Perm.append_left _ ?_; refine (List.Perm.append_right _ HY2.out.2.1.1).trans ?_; rw [List.append_assoc]; refine List.Perm.append_left _ ?_; rw [← List.append_assoc, ← List.append_assoc L2]; exact List.Perm.append_right _ List.perm_append_comm
                  have hm1 := HY2.out.2.1.1.length_eq
                  rw [List.length_append] at hm1
                  have hI := IH.out _ _ (A ++ M1) L2 R2 T md en b ⟨HI.out.ord, fun u hu => HI.out.nd u (hxp.mem_iff.1 hu), rfl, by have h_ := HSP.out; rw [List.length_append]; omega, by have h_ := HSP.out; rw [List.length_append]; omega, by have h_ := HSP.out; rw [List.length_append]; omega, (srtd_app.1 HSP.out.2.2.2.2.2.2.2.1).2.1, (srtd_app.1 HSP.out.2.2.2.2.2.2.2.2.1).2.1⟩ (hxp.length_eq.trans hN) (by rw [List.append_assoc]; exact HY2.out.1) HCo.out.1 HCo.out.2 (by have h_ := HE.out; have h2 := F.out.2.2; have h3 := HCo.out; omega) (by have h_ := HE.out; have h2 := F.out.2.2; have h3 := HCo.out; omega)
                  unfold SymDoes at hI
                  have HII := Aside0.mk hI
                  clear hI hxp hm1
                  go_wp2_with ((go_at_call 123; refine HII.out.mono ?_; rintro e w2 ⟨rfl, zs, hz2, hzp, hzg⟩; have HZ := Aside0.mk (And.intro hz2 (And.intro hzp hzg)); clear hz2 hzp hzg))
                  go_end0
                  have hj := sym_join HSP.out.2.2.2.2.2.2.2.1 HSP.out.2.2.2.2.2.2.2.2.1 HSP.out.2.2.2.2.1 HSP.out.2.2.2.2.2.1 HY2.out.2.1.1 HZ.out.2.1.1 HY2.out.2.1.2 HZ.out.2.1.2
                  refine ⟨rfl, M1 ++ zs, by have h_ := HZ.out.1; simp only [List.append_assoc] at h_ ⊢; exact h_, ⟨?_, hj.1⟩, HY2.out.2.2.trans HZ.out.2.2⟩
                  rw [HSP.out.1, HSP.out.2.1]; exact hj.2
                | false =>
                  have hcond : ¬ (md < en ∧ en < b) := by have h_ := HbC.out; rw [hq] at h_; simpa using h_.symm
                  have hx : Srtd (cmpD x) (L2 ++ R2) := by
                    have h_ := HSP.out
                    by_cases hl1 : L2.length = 0
                    · rw [List.length_eq_zero_iff.1 hl1]; exact (srtd_app.1 h_.2.2.2.2.2.2.2.2.1).2.1
                    · have hr1 : R2.length = 0 := by omega
                      rw [List.length_eq_zero_iff.1 hr1, List.append_nil]; exact (srtd_app.1 h_.2.2.2.2.2.2.2.1).2.1
                  have HX0 := Aside0.mk hx
                  clear hq hcond hx
                  go_wp2
                  go_end0
                  have hj := sym_join HSP.out.2.2.2.2.2.2.2.1 HSP.out.2.2.2.2.2.2.2.2.1 HSP.out.2.2.2.2.1 HSP.out.2.2.2.2.2.1 HY2.out.2.1.1 (List.Perm.refl (L2 ++ R2)) HY2.out.2.1.2 HX0.out
                  refine ⟨rfl, M1 ++ (L2 ++ R2), by have h_ := HY2.out.1; simp only [List.append_assoc] at h_ ⊢; exact h_, ⟨?_, hj.1⟩, HY2.out.2.2⟩
                  rw [HSP.out.1, HSP.out.2.1]; exact hj.2
end Go.Proofs.Ytgfmplhpoblleaa.FailW
end
section
/- slices.SortStableFunc: symMerge, whole. -/
namespace Go.Proofs.Ytgfmplhpoblleaa.FailW
open Go.RowKit Go.Shelf Go.Lib Go.Proofs Go.Proofs.YtgfmplhpoblleaaW.PrintWords Go.Proofs.YtgfmplhpoblleaaW.PrintLast Go.Proofs.YtgfmplhpoblleaaW.PrintMore Go.Proofs.Ytgfmplhpoblleaa.PRank Go.Proofs.Ytgfmplhpoblleaa.PFB Go.Proofs.Ytgfmplhpoblleaa.RankW Go.Proofs.Ytgfmplhpoblleaa.SortOwn Go.Proofs.Ytgfmplhpoblleaa
open Go.Proofs.Ytgfmplhpoblleaa.Cmps hiding dedup
set_option linter.unusedVariables false
set_option linter.unusedSimpArgs false

set_option maxHeartbeats 8000000 in
set_option maxRecDepth 100000 in
theorem sym_gen2 (w0 w : World) (b1 gd cap : Nat) (t : Addr) (x : List S106) (xs A L R T : List Int) (a m b md : Nat) (N : Nat) (hin : SymIn x xs A L R T a m b) (hN : xs.length = N) (hS : Srt w0 w b1 gd cap t x xs) (ham : a + 1 < m) (hmb : m + 1 < b) (hb : b ≤ N) (hlen : N ≤ 1000000000000) (hmd : md = (a + b) / 2) (hc : m ≤ md)
    (ih : ∀ (w : World) (xs A L R T : List Int) (a' m' b' : Nat), SymIn x xs A L R T a' m' b' → xs.length = N → Srt w0 w b1 gd cap t x xs → a' < m' → m' < b' → b' ≤ N → b' - a' < b - a → SymDoes w0 b1 gd cap t x N w A L R T a' m' b') : SymDoes w0 b1 gd cap t x N w A L R T a m b := by
  unfold SymDoes
  have HS := Aside0.mk hS
  have IH := Aside0.mk ih
  have HI := Aside0.mk hin
  clear hS ih hin
  have mixed : Try.prog.follows Departure.mixedOrders = true := by kernel_rfl
  obtain ⟨d, hd⟩ : ∃ d, d = m - a := ⟨_, rfl⟩
  have q1 : IntKind.i64.wrap ((m : Int) - (a : Int)) = (d : Int) := by rw [IntWalk.i64_in _ (by omega)]; omega
  have q2 : ¬ ((d : Int) = 1) := by omega
  have q2b : ((d : Int) == 1) = false := by simp; omega
  have q2c : ¬ (d = 1) := by omega
  obtain ⟨d', hd'⟩ : ∃ d', d' = b - m := ⟨_, rfl⟩
  have q3 : IntKind.i64.wrap ((b : Int) - (m : Int)) = (d' : Int) := by rw [IntWalk.i64_in _ (by omega)]; omega
  have q4 : ¬ ((d' : Int) = 1) := by omega
  have q4b : ((d' : Int) == 1) = false := by simp; omega
  have q4c : ¬ (d' = 1) := by omega
  obtain ⟨nn, hnn⟩ : ∃ nn, nn = md + m := ⟨_, rfl⟩
  obtain ⟨pp, hpp⟩ : ∃ pp, pp + 1 = nn := ⟨nn - 1, by omega⟩
  have q5 : ((a : Int) + (b : Int)) / 2 = (md : Int) := by omega
  have q6 : IntKind.i64.wrap ((md : Int) + (m : Int)) = (nn : Int) := by rw [IntWalk.i64_in _ (by omega)]; omega
  have q7 : IntKind.i64.wrap ((nn : Int) - 1) = (pp : Int) := by rw [IntWalk.i64_in _ (by omega)]; omega
  have q0 : IntKind.i64.wrap ((a : Int) + (b : Int)) = (a : Int) + (b : Int) := IntWalk.i64_in _ (by omega)
  obtain ⟨lo, hlo⟩ : ∃ lo, lo = a := ⟨_, rfl⟩
  obtain ⟨hi, hhi⟩ : ∃ hi, hi = m := ⟨_, rfl⟩
  have qc : ¬ ((md : Int) < (m : Int)) := by omega
  have qcn : ¬ (md < m) := by omega
  have n1 : a ≤ 1000000000000 := by omega
  have n2 : b ≤ 1000000000000 := by omega
  have n3 : m ≤ 1000000000000 := by omega
  have n4 : md ≤ 1000000000000 := by omega
  have f1 : lo ≤ hi := by omega
  have f2 : ∀ c, lo ≤ c → c < hi → c ≤ pp ∧ pp - c < N := fun c h1 h2 => by omega
  have f3 : ∀ c, lo ≤ c → c ≤ hi → c ≤ nn ∧ nn - c ≤ b ∧ c ≤ N := fun c h1 h2 => by omega
  have f4 : hi ≤ N := by omega
  have F := Aside0.mk (And.intro f2 (And.intro f3 (And.intro hmd (And.intro hc (And.intro hd (And.intro hd' (And.intro hnn (And.intro hpp (And.intro hlo (And.intro hhi (And.intro ham hmb)))))))))))
  clear f2 f3 hmd hc hd hd' hnn hpp hlo hhi ham hmb
  go_enter Try.func123, Try.ntmps123
  go_wp2
  go_loopw [20, 21] (fun iv jv wr => ∃ (st rr : Nat), iv = .int .i64 st ∧ jv = .int .i64 rr ∧ lo ≤ st ∧ st ≤ rr ∧ rr ≤ hi ∧ Srt w0 wr b1 gd cap t x xs ∧ ((lo < st → ∀ u v, xs[st - 1]? = some u → xs[nn - st]? = some v → Le (cmpD x) u v) ∧ (rr < hi → ∀ u v, xs[nn - rr - 1]? = some u → xs[rr]? = some v → Le (cmpD x) u v)) ∧ w.grownBy wr (some gd)) (fun iv jv wr => (intOf jv).toNat - (intOf iv).toNat)
  case atStart =>
    exact ⟨a, m, by first | rfl | go_num, by first | rfl | go_num, by have h2 := F.out.2.2; omega, by have h2 := F.out.2.2; omega, by have h2 := F.out.2.2; omega, HS.out, ⟨fun h_ => by have h2 := F.out.2.2; omega, fun h_ => by have h2 := F.out.2.2; omega⟩, grownBy_refl _ _⟩
  case round =>
    obtain ⟨st, rr, rfl, rfl, hi1, hij, hj, hS, hbs, hg⟩ := hrel
    by_cases hlt : st < rr
    · as_aux_lemma =>
      obtain ⟨c, hcc⟩ : ∃ c, c = (st + rr) / 2 := ⟨_, rfl⟩
      obtain ⟨g1, g2⟩ := F.out.1 c (by omega) (by omega)
      obtain ⟨dd, hdd⟩ : ∃ dd, dd = pp - c := ⟨_, rfl⟩
      have e1 : ((st : Int) + (rr : Int)) / 2 = (c : Int) := by omega
      have e2 : IntKind.i64.wrap ((pp : Int) - (c : Int)) = (dd : Int) := by rw [IntWalk.i64_in _ (by omega)]; omega
      have hcN : c < N := by omega
      have hdN : dd < N := by omega
      obtain ⟨va, hva⟩ : ∃ va, va = xs[dd]'(by omega) := ⟨_, rfl⟩
      obtain ⟨vb, hvb⟩ : ∃ vb, vb = xs[c]'(by omega) := ⟨_, rfl⟩
      have c1 := hS.at_ dd (by omega)
      have c0 := hS.at_ c (by omega)
      rw [← hva] at c1
      rw [← hvb] at c0
      have ia : (dd : Int) < (N : Int) := by omega
      have ih : (c : Int) < (N : Int) := by omega
      have HQ := Aside0.mk (And.intro hS (And.intro hg hcc))
      have exa : xs[dd]? = some va := by rw [hva]; exact List.getElem?_eq_getElem _
      have exb : xs[c]? = some vb := by rw [hvb]; exact List.getElem?_eq_getElem _
      have edd : dd = nn - c - 1 := by have h2 := F.out.2.2; omega
      have HBS := Aside0.mk (And.intro hbs (And.intro exa (And.intro exb edd)))
      obtain ⟨r, hr⟩ : ∃ r, r = cmpD x va vb := ⟨_, rfl⟩
      have HRr := Aside0.mk hr
      clear hS hg hva hvb hr hcc hdd hbs exa exb edd
      go_wp2_with fail
      go_region_held3 (fun w' => w'.cell? ⟨gd, dd, none⟩ = some (.int .i64 va) ∧ w'.cell? ⟨gd, c, none⟩ = some (.int .i64 vb))
        (first | exact ⟨c1, c0⟩ | (exact ⟨cell_grows G2.out c1, cell_grows G2.out c0⟩) | go_keep)
        ((go_simp; go_at_call 81; refine (cmpD_calls _ _ b1 t x _ (HQ.out.1.tr.below (HQ.out.1.grows ((Grows.refl wr).drewN 1)).bw) (HQ.out.1.grows ((Grows.refl wr).drewN 1)).bx).mono ?_; rw [← HRr.out]; rintro e w2 ⟨rfl, hg2⟩; have G2 := Aside0.mk (((Grows.refl wr).drewN 1).trans hg2); clear hg2))
      have S2 := Aside0.mk (HQ.out.1.grows G2.out)
      have HG2 := Aside0.mk (HQ.out.2.1.trans (grows_grownTo G2.out (some gd)))
      obtain ⟨bb, hbb⟩ : ∃ bb, decide (r < 0) = bb := ⟨_, rfl⟩
      have hbb2 : decide (0 ≤ r) = !bb := by
        rw [← hbb]
        by_cases h0 : r < 0
        · simp [h0]
        · simp [h0]; omega
      have HBB := Aside0.mk hbb
      simp only [hbb, hbb2]
      clear hbb hbb2
      cases bb with
      | true =>
        go_wp2
        go_roundw
        case rel => exact ⟨st, c, rfl, by first | rfl | go_num, hi1, by have := HQ.out.2.2; omega, by have := HQ.out.2.2; omega, S2.out, ⟨HBS.out.1.1, fun _ u v hu hv => by have h4 := HBS.out.2.2.2; rw [← h4, HBS.out.2.1] at hu; rw [HBS.out.2.2.1] at hv; obtain rfl := Option.some.inj hu; obtain rfl := Option.some.inj hv; exact HI.out.ord.le (HI.out.nd _ (List.mem_of_getElem? HBS.out.2.1)) (HI.out.nd _ (List.mem_of_getElem? HBS.out.2.2.1)) (by rw [← HRr.out]; exact of_decide_eq_true HBB.out)⟩, HG2.out⟩
        case measure => have := HQ.out.2.2; simp [intOf]; omega
      | false =>
        go_wp2
        go_roundw
        case rel => exact ⟨c + 1, rr, by go_num, rfl, by have := HQ.out.2.2; omega, by have := HQ.out.2.2; omega, hj, S2.out, ⟨fun _ u v hu hv => by have h4 := HBS.out.2.2.2; rw [Nat.add_sub_cancel, HBS.out.2.2.1] at hu; rw [show nn - (c + 1) = dd by omega, HBS.out.2.1] at hv; obtain rfl := Option.some.inj hu; obtain rfl := Option.some.inj hv; exact show ¬ cmpD x _ _ < 0 by rw [← HRr.out]; exact of_decide_eq_false HBB.out, HBS.out.1.2⟩, HG2.out⟩
        case measure => have := HQ.out.2.2; simp [intOf]; omega
    · have hsr : st = rr := by omega
      obtain ⟨k1, k2, k3⟩ := F.out.2.1 st hi1 (by omega)
      obtain ⟨en, hen⟩ : ∃ en, en = nn - st := ⟨_, rfl⟩
      have e6 : IntKind.i64.wrap ((nn : Int) - (st : Int)) = (en : Int) := by rw [IntWalk.i64_in _ (by omega)]; omega
      have hlt' : ¬ ((st : Int) < (rr : Int)) := by omega
      have hla := HI.out.la
      have hlm := HI.out.lm
      have hlb := HI.out.lb
      obtain ⟨L1, L2, R1, R2, s1, s2, s3, s4, s5, s6⟩ := sym_split HI.out.ord (A := A) (L := L) (R := R) (T := T) (by rw [← HI.out.eq]; exact HI.out.nd) HI.out.sl HI.out.sr (st := st) (en := en) (by have h2 := F.out.2.2; omega) (by have h2 := F.out.2.2; omega) (by have h2 := F.out.2.2; omega) (by have h2 := F.out.2.2; omega)
        (fun g1 g2 u v hu hv => hbs.1 (by have h2 := F.out.2.2; omega) u v (by rw [HI.out.eq]; exact hu) (by rw [HI.out.eq, ← hen]; exact hv))
        (fun g1 g2 u v hu hv => hbs.2 (by have h2 := F.out.2.2; omega) u v (by rw [HI.out.eq, ← hsr, ← hen]; exact hu) (by rw [HI.out.eq, ← hsr]; exact hv))
      have hmd2 : A.length + L1.length + R1.length = md := by have h2 := F.out.2.2; omega
      have HQ := Aside0.mk (And.intro hS hg)
      have HE := Aside0.mk (And.intro hen (And.intro k1 (And.intro k2 k3)))
      have hsl := HI.out.sl
      have hsr2 := HI.out.sr
      rw [s1] at hsl
      rw [s2] at hsr2
      have heq := HI.out.eq
      rw [s1, s2] at heq
      simp only [List.append_assoc] at heq
      have lL : L.length = L1.length + L2.length := by rw [s1, List.length_append]
      have lR : R.length = R1.length + R2.length := by rw [s2, List.length_append]
      have HSP := Aside0.mk (And.intro s1 (And.intro s2 (And.intro s3 (And.intro s4 (And.intro s5 (And.intro s6 (And.intro hmd2 (And.intro hsl (And.intro hsr2 (And.intro heq (And.intro lL (And.intro lR (And.intro hla (And.intro hlm hlb))))))))))))))
      clear hS hg hsr hen k1 k2 k3 hbs s1 s2 s3 s4 s5 s6 hmd2 hla hlm hlb hsl hsr2 heq lL lR
      go_upto_region 39 with fail
      have hAdec : ∀ p q : Prop, [Decidable p] → [Decidable q] → True := fun _ _ => trivial
      obtain ⟨bA, hbA⟩ : ∃ bA, bA = (decide (st < m) && decide (m < en)) := ⟨_, rfl⟩
      have HbA := Aside0.mk hbA
      clear hbA hAdec
      go_cut [185] (fun v wx => v = .bool bA ∧ wx = wr)
      case first => as_aux_lemma =>
        by_cases hA1 : st < m
        · by_cases hA2 : m < en
          · have z1 : (st : Int) < (m : Int) := by omega
            have z2 : (m : Int) < (en : Int) := by omega
            go_wp2
            go_meet
            exact ⟨by rw [HbA.out]; simp [hA1, hA2], rfl⟩
          · have z1 : (st : Int) < (m : Int) := by omega
            have z2 : ¬ ((m : Int) < (en : Int)) := by omega
            go_wp2
            go_meet
            exact ⟨by rw [HbA.out]; simp [hA1, hA2], rfl⟩
        · have z1 : ¬ ((st : Int) < (m : Int)) := by omega
          go_wp2
          go_meet
          exact ⟨by rw [HbA.out]; simp [hA1], rfl⟩
      case rest =>
        obtain ⟨rfl, rfl⟩ := hcut
        go_upto_if 185 with fail
        go_cut [] (fun wx => Srt w0 wx b1 gd cap t x (A ++ (L1 ++ (R1 ++ (L2 ++ (R2 ++ T))))) ∧ w.grownBy wx (some gd))
        case first => as_aux_lemma =>
          cases hq : bA with
          | true =>
            have hcond : st < m ∧ m < en := by have h_ := HbA.out; rw [hq] at h_; simpa using h_.symm
            have HCo := Aside0.mk hcond
            clear hcond hq
            go_wp2_with ((go_at_call 141; refine (rot_calls w0 _ b1 gd cap t x xs (A ++ L1) L2 R1 (R2 ++ T) (by have h_ := HSP.out; rw [h_.2.2.2.2.2.2.2.2.2.1]; simp only [List.append_assoc]) st m en (by have h_ := HSP.out; rw [List.length_append]; omega) (by have h_ := HSP.out; rw [List.length_append]; omega) (by have h_ := HSP.out; rw [List.length_append]; omega) _ N hN HQ.out.1 HCo.out.1 HCo.out.2 (by have h_ := HE.out; omega) hlen).mono ?_; rintro e w2 ⟨rfl, hz2, hzg⟩; have HZ := Aside0.mk (And.intro hz2 hzg); clear hz2 hzg))
            go_meet
            exact ⟨by have h_ := HZ.out.1; simp only [List.append_assoc] at h_; exact h_, HQ.out.2.trans HZ.out.2⟩
          | false =>
            have hcond : ¬ (st < m ∧ m < en) := by have h_ := HbA.out; rw [hq] at h_; simpa using h_.symm
            have hx : xs = A ++ (L1 ++ (R1 ++ (L2 ++ (R2 ++ T)))) := by
              have h_ := HSP.out
              rw [h_.2.2.2.2.2.2.2.2.2.1]
              by_cases hl2 : L2.length = 0
              · rw [List.length_eq_zero_iff.1 hl2]; rfl
              · have hr1 : R1.length = 0 := by omega
                rw [List.length_eq_zero_iff.1 hr1]; rfl
            have HX0 := Aside0.mk hx
            clear hq hcond hx
            go_wp2
            go_meet
            exact ⟨by rw [← HX0.out]; exact HQ.out.1, HQ.out.2⟩
        case rest =>
          obtain ⟨hs_, hg_⟩ := hcut
          have HY1 := Aside0.mk (And.intro hs_ hg_)
          clear hs_ hg_
          go_upto_region 41 with fail
          obtain ⟨bB, hbB⟩ : ∃ bB, bB = (decide (a < st) && decide (st < md)) := ⟨_, rfl⟩
          have HbB := Aside0.mk hbB
          clear hbB
          go_cut [199] (fun v wx => v = .bool bB ∧ wx = wc)
          case first => as_aux_lemma =>
            by_cases h1 : a < st
            · by_cases h2 : st < md
              · have z1 : (a : Int) < (st : Int) := by omega
                have z2 : ((st : Int) < (md : Int)) := by omega
                go_wp2
                go_meet
                exact ⟨by rw [HbB.out]; simp [h1, h2], rfl⟩
              · have z1 : (a : Int) < (st : Int) := by omega
                have z2 : ¬ ((st : Int) < (md : Int)) := by omega
                go_wp2
                go_meet
                exact ⟨by rw [HbB.out]; simp [h1, h2], rfl⟩
            · have z1 : ¬ ((a : Int) < (st : Int)) := by omega
              go_wp2
              go_meet
              exact ⟨by rw [HbB.out]; simp [h1], rfl⟩
          case rest =>
            obtain ⟨rfl, rfl⟩ := hcut
            go_upto_if 199 with fail
            go_cut [] (fun wx => ∃ M1 : List Int, Srt w0 wx b1 gd cap t x (A ++ (M1 ++ (L2 ++ (R2 ++ T)))) ∧ (M1.Perm (L1 ++ R1) ∧ Srtd (cmpD x) M1) ∧ w.grownBy wx (some gd))
            case first => as_aux_lemma =>
              cases hq : bB with
              | true =>
                have hcond : a < st ∧ st < md := by have h_ := HbB.out; rw [hq] at h_; simpa using h_.symm
                have HCo := Aside0.mk hcond
                clear hcond hq
                have hxp : (A ++ (L1 ++ (R1 ++ (L2 ++ (R2 ++ T))))).Perm xs := by have h_ := HSP.out; rw [h_.2.2.2.2.2.2.2.2.2.1]; refine List.Perm.append_left _ (List.Perm.append_left _ ?_); rw [← List.append_assoc, ← List.append_assoc L2]; exact List.Perm.append_right _ List.perm_append_comm
                have hI := IH.out _ _ A L1 R1 (L2 ++ (R2 ++ T)) a st md ⟨HI.out.ord, fun u hu => HI.out.nd u (hxp.mem_iff.1 hu), rfl, by have h_ := HSP.out; omega, by have h_ := HSP.out; omega, by have h_ := HSP.out; omega, (srtd_app.1 HSP.out.2.2.2.2.2.2.2.1).1, (srtd_app.1 HSP.out.2.2.2.2.2.2.2.2.1).1⟩ (hxp.length_eq.trans hN) HY1.out.1 HCo.out.1 HCo.out.2 (by have h_ := HE.out; have h2 := F.out.2.2; have h3 := HCo.out; omega) (by have h_ := HE.out; have h2 := F.out.2.2; have h3 := HCo.out; omega)
                unfold SymDoes at hI
                have HII := Aside0.mk hI
                clear hI hxp
                go_wp2_with ((go_at_call 123; refine HII.out.mono ?_; rintro e w2 ⟨rfl, zs, hz2, hzp, hzg⟩; have HZ := Aside0.mk (And.intro hz2 (And.intro hzp hzg)); clear hz2 hzp hzg))
                go_meet
                exact ⟨zs, HZ.out.1, HZ.out.2.1, HY1.out.2.trans HZ.out.2.2⟩
              | false =>
                have hcond : ¬ (a < st ∧ st < md) := by have h_ := HbB.out; rw [hq] at h_; simpa using h_.symm
                have hx : Srtd (cmpD x) (L1 ++ R1) := by
                  have h_ := HSP.out
                  by_cases hl1 : L1.length = 0
                  · rw [List.length_eq_zero_iff.1 hl1]; exact (srtd_app.1 h_.2.2.2.2.2.2.2.2.1).1
                  · have hr1 : R1.length = 0 := by omega
                    rw [List.length_eq_zero_iff.1 hr1, List.append_nil]; exact (srtd_app.1 h_.2.2.2.2.2.2.2.1).1
                have HX0 := Aside0.mk hx
                clear hq hcond hx
                go_wp2
                go_meet
                exact ⟨L1 ++ R1, by rw [List.append_assoc]; exact HY1.out.1, ⟨List.Perm.refl _, HX0.out⟩, HY1.out.2⟩
            case rest =>
              obtain ⟨M1, hs_, hp_, hg_⟩ := hcut
              have HY2 := Aside0.mk (And.intro hs_ (And.intro hp_ hg_))
              clear hs_ hp_ hg_
              go_upto_region 43 with fail
              obtain ⟨bC, hbC⟩ : ∃ bC, bC = (decide (md < en) && decide (en < b)) := ⟨_, rfl⟩
              have HbC := Aside0.mk hbC
              clear hbC
              go_cut [213] (fun v wx => v = .bool bC ∧ wx = wc)
              case first => as_aux_lemma =>
                by_cases h1 : md < en
                · by_cases h2 : en < b
                  · have z1 : (md : Int) < (en : Int) := by omega
                    have z2 : ((en : Int) < (b : Int)) := by omega
                    go_wp2
                    go_meet
                    exact ⟨by rw [HbC.out]; simp [h1, h2], rfl⟩
                  · have z1 : (md : Int) < (en : Int) := by omega
                    have z2 : ¬ ((en : Int) < (b : Int)) := by omega
                    go_wp2
                    go_meet
                    exact ⟨by rw [HbC.out]; simp [h1, h2], rfl⟩
                · have z1 : ¬ ((md : Int) < (en : Int)) := by omega
                  go_wp2
                  go_meet
                  exact ⟨by rw [HbC.out]; simp [h1], rfl⟩
              case rest =>
                obtain ⟨rfl, rfl⟩ := hcut
                cases hq : bC with
                | true => as_aux_lemma =>
                  have hcond : md < en ∧ en < b := by have h_ := HbC.out; rw [hq] at h_; simpa using h_.symm
                  have HCo := Aside0.mk hcond
                  clear hcond hq
                  have hxp : ((A ++ M1) ++ (L2 ++ (R2 ++ T))).Perm xs := by have h_ := HSP.out; rw [h_.2.2.2.2.2.2.2.2.2.1, List.append_assoc]; refine List.Perm.append_left _ ?_; refine (List.Perm.append_right _ HY2.out.2.1.1).trans ?_; rw [List.append_assoc]; refine List.Perm.append_left _ ?_; rw [← List.append_assoc, ← List.append_assoc L2]; exact List.Perm.append_right _ List.perm_append_comm
                  have hm1 := HY2.out.2.1.1.length_eq
                  rw [List.length_append] at hm1
                  have hI := IH.out _ _ (A ++ M1) L2 R2 T md en b ⟨HI.out.ord, fun u hu => HI.out.nd u (hxp.mem_iff.1 hu), rfl, by have h_ := HSP.out; rw [List.length_append]; omega, by have h_ := HSP.out; rw [List.length_append]; omega, by have h_ := HSP.out; rw [List.length_append]; omega, (srtd_app.1 HSP.out.2.2.2.2.2.2.2.1).2.1, (srtd_app.1 HSP.out.2.2.2.2.2.2.2.2.1).2.1⟩ (hxp.length_eq.trans hN) (by rw [List.append_assoc]; exact HY2.out.1) HCo.out.1 HCo.out.2 (by have h_ := HE.out; have h2 := F.out.2.2; have h3 := HCo.out; omega) (by have h_ := HE.out; have h2 := F.out.2.2; have h3 := HCo.out; omega)
                  unfold SymDoes at hI
                  have HII := Aside0.mk hI
                  clear hI hxp hm1
                  go_wp2_with ((go_at_call 123; refine HII.out.mono ?_; rintro e w2 ⟨rfl, zs, hz2, hzp, hzg⟩; have HZ := Aside0.mk (And.intro hz2 (And.intro hzp hzg)); clear hz2 hzp hzg))
                  go_end0
                  have hj := sym_join HSP.out.2.2.2.2.2.2.2.1 HSP.out.2.2.2.2.2.2.2.2.1 HSP.out.2.2.2.2.1 HSP.out.2.2.2.2.2.1 HY2.out.2.1.1 HZ.out.2.1.1 HY2.out.2.1.2 HZ.out.2.1.2
                  refine ⟨rfl, M1 ++ zs, by have h_ := HZ.out.1; simp only [List.append_assoc] at h_ ⊢; exact h_, ⟨?_, hj.1⟩, HY2.out.2.2.trans HZ.out.2.2⟩
                  rw [HSP.out.1, HSP.out.2.1]; exact hj.2
                | false =>
                  have hcond : ¬ (md < en ∧ en < b) := by have h_ := HbC.out; rw [hq] at h_; simpa using h_.symm
                  have hx : Srtd (cmpD x) (L2 ++ R2) := by
                    have h_ := HSP.out
                    by_cases hl1 : L2.length = 0
                    · rw [List.length_eq_zero_iff.1 hl1]; exact (srtd_app.1 h_.2.2.2.2.2.2.2.2.1).2.1
                    · have hr1 : R2.length = 0 := by omega
                      rw [List.length_eq_zero_iff.1 hr1, List.append_nil]; exact (srtd_app.1 h_.2.2.2.2.2.2.2.1).2.1
                  have HX0 := Aside0.mk hx
                  clear hq hcond hx
                  go_wp2
                  go_end0
                  have hj := sym_join HSP.out.2.2.2.2.2.2.2.1 HSP.out.2.2.2.2.2.2.2.2.1 HSP.out.2.2.2.2.1 HSP.out.2.2.2.2.2.1 HY2.out.2.1.1 (List.Perm.refl (L2 ++ R2)) HY2.out.2.1.2 HX0.out
                  refine ⟨rfl, M1 ++ (L2 ++ R2), by have h_ := HY2.out.1; simp only [List.append_assoc] at h_ ⊢; exact h_, ⟨?_, hj.1⟩, HY2.out.2.2⟩
                  rw [HSP.out.1, HSP.out.2.1]; exact hj.2
end Go.Proofs.Ytgfmplhpoblleaa.FailW
end
section
/- slices.SortStableFunc over a row of node numbers: it ends; what it leaves is the same numbers. -/
namespace Go.Proofs.Ytgfmplhpoblleaa.FailW
open Go.RowKit Go.Shelf Go.Lib Go.Proofs Go.Proofs.YtgfmplhpoblleaaW.PrintWords Go.Proofs.YtgfmplhpoblleaaW.PrintLast Go.Proofs.YtgfmplhpoblleaaW.PrintMore Go.Proofs.Ytgfmplhpoblleaa.PRank Go.Proofs.Ytgfmplhpoblleaa.PFB Go.Proofs.Ytgfmplhpoblleaa.RankW Go.Proofs.Ytgfmplhpoblleaa.SortOwn Go.Proofs.Ytgfmplhpoblleaa
open Go.Proofs.Ytgfmplhpoblleaa.Cmps hiding dedup
set_option linter.unusedVariables false
set_option linter.unusedSimpArgs false

theorem sym_all (w0 : World) (b1 gd cap : Nat) (t : Addr) (x : List S106) (N : Nat) (hlen : N ≤ 1000000000000) : ∀ (d : Nat) (w : World) (xs A L R T : List Int) (a m b : Nat), SymIn x xs A L R T a m b → xs.length = N → Srt w0 w b1 gd cap t x xs → a < m → m < b → b ≤ N → b - a ≤ d → SymDoes w0 b1 gd cap t x N w A L R T a m b
  | 0, w, xs, A, L, R, T, a, m, b, hin, hN, hS, h1, h2, h3, h4 => by omega
  | d + 1, w, xs, A, L, R, T, a, m, b, hin, hN, hS, h1, h2, h3, h4 => by
    by_cases c1 : m = a + 1
    · exact sym_one w0 w b1 gd cap t x xs A L R T a m b N hin hN hS c1 h2 h3 hlen
    · by_cases c2 : b = m + 1
      · exact sym_last w0 w b1 gd cap t x xs A L R T a m b N hin hN hS (by omega) c2 h3 hlen
      · have ih : ∀ (w : World) (xs A L R T : List Int) (a' m' b' : Nat), SymIn x xs A L R T a' m' b' → xs.length = N → Srt w0 w b1 gd cap t x xs → a' < m' → m' < b' → b' ≤ N → b' - a' < b - a → SymDoes w0 b1 gd cap t x N w A L R T a' m' b' := fun w xs A L R T a' m' b' g0 g1 g2 g3 g4 g5 g6 => sym_all w0 b1 gd cap t x N hlen d w xs A L R T a' m' b' g0 g1 g2 g3 g4 g5 (by omega)
        by_cases c3 : (a + b) / 2 < m
        · exact sym_gen1 w0 w b1 gd cap t x xs A L R T a m b ((a + b) / 2) N hin hN hS (by omega) (by omega) h3 hlen rfl c3 ih
        · exact sym_gen2 w0 w b1 gd cap t x xs A L R T a m b ((a + b) / 2) N hin hN hS (by omega) (by omega) h3 hlen rfl (by omega) ih
theorem ins_calls' (w0 w : World) (b1 gd cap : Nat) (t : Addr) (x : List S106) (xs : List Int) (a b N : Nat) (hN : xs.length = N) (hS : Srt w0 w b1 gd cap t x xs) (hab : a ≤ b) (hb : b ≤ N) (hlen : N ≤ 1000000000000) (hO : OrdC (NdS x) (cmpD x)) (hP : ∀ u ∈ xs, NdS x u) :
    Calls Try.prog 122 #[.slice (some ⟨gd, 0, none⟩) N cap, .int .i64 a, .int .i64 b, .func (.func 81) #[] #[.pointer (some ⟨b1, 0, none⟩)]] w fun e w' => e = .returned (.tuple #[]) ∧ ∃ ys : List Int, Srt w0 w' b1 gd cap t x ys ∧ (ys.Perm xs ∧ OutS xs ys a b ∧ SegS (cmpD x) ys a b) ∧ w.grownBy w' (some gd) := by
  subst hN
  exact ins_calls w0 w b1 gd cap t x xs a b hS hab hb hlen hO hP
/-- symMerge over two stretches that are sorted. -/
theorem sym_calls (w0 w : World) (b1 gd cap : Nat) (t : Addr) (x : List S106) (xs : List Int) (a m b N : Nat) (hN : xs.length = N) (hlen : N ≤ 1000000000000) (hS : Srt w0 w b1 gd cap t x xs) (h1 : a < m) (h2 : m < b) (h3 : b ≤ N) (hO : OrdC (NdS x) (cmpD x)) (hP : ∀ u ∈ xs, NdS x u) (s1 : SegS (cmpD x) xs a m) (s2 : SegS (cmpD x) xs m b) :
    Calls Try.prog 123 #[.slice (some ⟨gd, 0, none⟩) N cap, .int .i64 a, .int .i64 m, .int .i64 b, .func (.func 81) #[] #[.pointer (some ⟨b1, 0, none⟩)]] w fun e w' => e = .returned (.tuple #[]) ∧ ∃ ys : List Int, Srt w0 w' b1 gd cap t x ys ∧ (ys.Perm xs ∧ OutS xs ys a b ∧ SegS (cmpD x) ys a b) ∧ w.grownBy w' (some gd) := by
  obtain ⟨A, L, R, T, e1, e2, e3, e4⟩ := four_parts xs a m b (by omega) (by omega) (by omega)
  have hin : SymIn x xs A L R T a m b := by
    refine ⟨hO, hP, e1, e2, e3, e4, ?_, ?_⟩
    · refine seg_parts (A := A) (T := R ++ T) ?_
      rw [← e1, e3, e2]; exact s1
    · refine seg_parts (A := A ++ L) (T := T) ?_
      rw [List.append_assoc, ← e1, List.length_append, e3, show m + R.length = b by omega]; exact s2
  refine (sym_all w0 b1 gd cap t x N hlen (b - a) w xs A L R T a m b hin hN hS h1 h2 h3 (Nat.le_refl _)).mono ?_
  rintro e w2 ⟨rfl, M, hS2, ⟨hp, hs⟩, hg⟩
  have hml := hp.length_eq
  rw [List.length_append] at hml
  refine ⟨rfl, _, hS2, ⟨?_, ?_, ?_⟩, hg⟩
  · rw [e1, ← List.append_assoc L]
    exact List.Perm.append_left _ (List.Perm.append_right _ hp)
  · intro p hp
    rw [e1]
    rcases hp with hp | hp
    · rw [List.getElem?_append_left (by omega), List.getElem?_append_left (by omega)]
    · rw [List.getElem?_append_right (by omega), List.getElem?_append_right (by omega), List.getElem?_append_right (by omega), List.getElem?_append_right (by omega), List.getElem?_append_right (by omega)]
      congr 1; omega
  · have := parts_seg (A := A) (T := T) hs
    rw [e2, show a + M.length = b by omega] at this
    exact this

set_option maxHeartbeats 8000000 in
set_option maxRecDepth 100000 in
theorem stable_calls (w0 w : World) (b1 gd cap : Nat) (t : Addr) (x : List S106) (xs : List Int) (N : Nat) (hN : xs.length = N) (hS : Srt w0 w b1 gd cap t x xs) (hlen : N ≤ 1000000000000) (hO : OrdC (NdS x) (cmpD x)) (hP : ∀ u ∈ xs, NdS x u) :
    Calls Try.prog 103 #[.slice (some ⟨gd, 0, none⟩) N cap, .int .i64 N, .func (.func 81) #[] #[.pointer (some ⟨b1, 0, none⟩)]] w fun e w' => e = .returned (.tuple #[]) ∧ ∃ ys : List Int, Srt w0 w' b1 gd cap t x ys ∧ (ys.Perm xs ∧ SegS (cmpD x) ys 0 N) ∧ w.grownBy w' (some gd) := by
  have HS := Aside0.mk hS
  have HO := Aside0.mk (And.intro hO hP)
  clear hS hO hP
  go_enter Try.func103, Try.ntmps103
  go_wp2
  go_loopw [7, 8] (fun av bv wr => ∃ (a b : Nat) (ys : List Int), av = .int .i64 a ∧ bv = .int .i64 b ∧ a ≤ N ∧ b = a + 20 ∧ Srt w0 wr b1 gd cap t x ys ∧ (ys.Perm xs ∧ BlkS (cmpD x) ys 20 a N) ∧ w.grownBy wr (some gd)) (fun av bv wr => N + 20 - (intOf bv).toNat)
  case atStart =>
    exact ⟨0, 20, xs, rfl, rfl, Nat.zero_le _, rfl, HS.out, ⟨List.Perm.refl _, blk0 _ _ _ _⟩, grownBy_refl _ _⟩
  case round =>
    obtain ⟨a, b, ys, rfl, rfl, ha, hb, hS, hp, hg⟩ := hrel
    have HQ := Aside0.mk (And.intro hS (And.intro hp (And.intro hg hb)))
    have hb2 : b ≤ 1000000000020 := by omega
    have hab : a ≤ b := by omega
    clear hS hp hg hb
    by_cases hlt : b ≤ N
    · have z1 : (b : Int) ≤ (N : Int) := by omega
      go_wp2_with ((go_at_call 122; refine (ins_calls' w0 _ b1 gd cap t x ys a b N (HQ.out.2.1.1.length_eq.trans hN) HQ.out.1 hab hlt hlen HO.out.1 (fun u hu => HO.out.2 u (HQ.out.2.1.1.mem_iff.1 hu))).mono ?_; rintro e w2 ⟨rfl, zs, hz2, hzp, hzg⟩; have HZ := Aside0.mk (And.intro hz2 (And.intro hzp hzg)); clear hz2 hzp hzg))
      exact ⟨⟨b, b + 20, zs, rfl, by go_num, hlt, rfl, HZ.out.1, ⟨HZ.out.2.1.1.trans HQ.out.2.1.1, HQ.out.2.1.2.more (by omega) HQ.out.2.2.2 hlt HZ.out.2.1.2.1 HZ.out.2.1.2.2⟩, HQ.out.2.2.1.trans HZ.out.2.2⟩, by simp only [intOf]; omega⟩
    · have z1 : ¬ ((b : Int) ≤ (N : Int)) := by omega
      go_wp2_with ((go_at_call 122; refine (ins_calls' w0 _ b1 gd cap t x ys a N N (HQ.out.2.1.1.length_eq.trans hN) HQ.out.1 ha (Nat.le_refl _) hlen HO.out.1 (fun u hu => HO.out.2 u (HQ.out.2.1.1.mem_iff.1 hu))).mono ?_; rintro e w2 ⟨rfl, zs, hz2, hzp, hzg⟩; have HZ := Aside0.mk (And.intro hz2 (And.intro (And.intro (hzp.1.trans HQ.out.2.1.1) (HQ.out.2.1.2.last (by omega) (by have := HQ.out.2.2.2; omega) hzp.2.1 hzp.2.2)) (HQ.out.2.2.1.trans hzg))); clear hz2 hzp hzg))
      go_loopw [6] (fun bv wr => ∃ (bs : Nat) (ys : List Int), bv = .int .i64 bs ∧ 1 ≤ bs ∧ bs ≤ 2000000000020 ∧ Srt w0 wr b1 gd cap t x ys ∧ (ys.Perm xs ∧ BlkA (cmpD x) ys bs N) ∧ w.grownBy wr (some gd)) (fun bv wr => N - (intOf bv).toNat)
      case atStart => exact ⟨20, zs, rfl, by omega, by omega, HZ.out.1, HZ.out.2.1, HZ.out.2.2⟩
      case round =>
        obtain ⟨bs, y2, rfl, h1, h2, hS, hp, hg⟩ := hrel
        have HW := Aside0.mk (And.intro hS (And.intro hp hg))
        clear hS hp hg
        by_cases hlt2 : bs < N
        · have z2 : (bs : Int) < (N : Int) := by omega
          obtain ⟨b2, hb2'⟩ : ∃ b2, b2 = 2 * bs := ⟨_, rfl⟩
          have w1 : IntKind.i64.wrap (2 * (bs : Int)) = (b2 : Int) := by rw [IntWalk.i64_in _ (by omega)]; omega
          have w1' : IntKind.i64.wrap ((bs : Int) * 2) = (b2 : Int) := by rw [IntWalk.i64_in _ (by omega)]; omega
          have HB2 := Aside0.mk hb2'
          have hb2b : b2 ≤ 2000000000000 := by omega
          clear hb2'
          go_wp2
          go_loopw [7, 8] (fun av bv wr => ∃ (a b : Nat) (ys : List Int), av = .int .i64 a ∧ bv = .int .i64 b ∧ a ≤ N ∧ b = a + b2 ∧ Srt w0 wr b1 gd cap t x ys ∧ (ys.Perm xs ∧ BlkS (cmpD x) ys b2 a N ∧ BlkF (cmpD x) ys bs a N) ∧ w.grownBy wr (some gd)) (fun av bv wr => N + b2 - (intOf bv).toNat)
          case atStart => exact ⟨0, b2, y2, rfl, by first | rfl | go_num, Nat.zero_le _, by omega, HW.out.1, ⟨HW.out.2.1.1, blk0 _ _ _ _, HW.out.2.1.2.from0⟩, HW.out.2.2⟩
          case round =>
            obtain ⟨a, b, y3, rfl, rfl, ha, hb, hS, hp, hg⟩ := hrel
            obtain ⟨mm, hmm⟩ : ∃ mm, mm = a + bs := ⟨_, rfl⟩
            obtain ⟨bn, hbn⟩ : ∃ bn, bn = b + b2 := ⟨_, rfl⟩
            have w2 : IntKind.i64.wrap ((a : Int) + (bs : Int)) = (mm : Int) := by rw [IntWalk.i64_in _ (by omega)]; omega
            have w3 : IntKind.i64.wrap ((b : Int) + (b2 : Int)) = (bn : Int) := by rw [IntWalk.i64_in _ (by omega)]; omega
            have HX := Aside0.mk (And.intro hS (And.intro hp (And.intro hg (And.intro hb (And.intro hmm hbn)))))
            clear hS hp hg hb hmm hbn
            by_cases hlt3 : b ≤ N
            · have z3 : (b : Int) ≤ (N : Int) := by omega
              go_wp2_with ((go_at_call 123; refine (sym_calls w0 _ b1 gd cap t x y3 a mm b N (HX.out.2.1.1.length_eq.trans hN) hlen HX.out.1 (by have := HX.out.2.2.2; omega) (by have := HX.out.2.2.2; have := HB2.out; omega) hlt3 HO.out.1 (fun u hu => HO.out.2 u (HX.out.2.1.1.mem_iff.1 hu)) (by have h_ := (blk_two HX.out.2.1.2.1 HX.out.2.1.2.2 HB2.out).1; have h2_ := HX.out.2.2.2; have := HB2.out; rw [← h2_.2.1, Nat.min_eq_left (by omega)] at h_; exact h_) (by have h_ := (blk_two HX.out.2.1.2.1 HX.out.2.1.2.2 HB2.out).2; have h2_ := HX.out.2.2.2; rw [← h2_.2.1, ← h2_.1, Nat.min_eq_left (by omega)] at h_; exact h_)).mono ?_; rintro e w2 ⟨rfl, zs, hz2, hzp, hzg⟩; have HY := Aside0.mk (And.intro hz2 (And.intro (And.intro (hzp.1.trans HX.out.2.1.1) (And.intro (HX.out.2.1.2.1.more (by have := HB2.out; omega) HX.out.2.2.2.1 hlt3 hzp.2.1 hzp.2.2) (HX.out.2.1.2.2.more (by have := HX.out.2.2.2; omega) hzp.2.1))) (HX.out.2.2.1.trans hzg))); clear hz2 hzp hzg))
              exact ⟨⟨b, bn, _, rfl, rfl, hlt3, HX.out.2.2.2.2.2, HY.out.1, HY.out.2.1, HY.out.2.2⟩, by have := HX.out.2.2.2; have := HB2.out; simp only [intOf]; omega⟩
            · have z3 : ¬ ((b : Int) ≤ (N : Int)) := by omega
              by_cases hlt4 : mm < N
              · have z4 : (mm : Int) < (N : Int) := by omega
                go_wp2_with ((go_at_call 123; refine (sym_calls w0 _ b1 gd cap t x y3 a mm N N (HX.out.2.1.1.length_eq.trans hN) hlen HX.out.1 (by have := HX.out.2.2.2; omega) hlt4 (Nat.le_refl _) HO.out.1 (fun u hu => HO.out.2 u (HX.out.2.1.1.mem_iff.1 hu)) (by have h_ := (blk_two HX.out.2.1.2.1 HX.out.2.1.2.2 HB2.out).1; have h2_ := HX.out.2.2.2; rw [← h2_.2.1, Nat.min_eq_left (by omega)] at h_; exact h_) (by have h_ := (blk_two HX.out.2.1.2.1 HX.out.2.1.2.2 HB2.out).2; have h2_ := HX.out.2.2.2; rw [← h2_.2.1, ← h2_.1, Nat.min_eq_right (by omega)] at h_; exact h_)).mono ?_; rintro e w2 ⟨rfl, zs, hz2, hzp, hzg⟩; have HY := Aside0.mk (And.intro hz2 (And.intro (And.intro (hzp.1.trans HX.out.2.1.1) (HX.out.2.1.2.1.last (by have := HB2.out; omega) (by have := HX.out.2.2.2; omega) hzp.2.1 hzp.2.2)) (HX.out.2.2.1.trans hzg))); clear hz2 hzp hzg))
                exact ⟨⟨b2, _, rfl, by have := HB2.out; omega, by omega, HY.out.1, HY.out.2.1, HY.out.2.2⟩, by have := HB2.out; simp only [intOf]; omega⟩
              · have z4 : ¬ ((mm : Int) < (N : Int)) := by omega
                have hseg := (blk_two HX.out.2.1.2.1 HX.out.2.1.2.2 HB2.out).1
                have h2_ := HX.out.2.2.2
                rw [← h2_.2.1, Nat.min_eq_right (by omega)] at hseg
                have HSG := Aside0.mk (And.intro HX.out.2.1.1 (HX.out.2.1.2.1.end_ (by have := HB2.out; omega) (by omega) hseg))
                clear hseg h2_
                go_wp2
                exact ⟨⟨b2, _, rfl, by have := HB2.out; omega, by omega, HX.out.1, HSG.out, HX.out.2.2.1⟩, by have := HB2.out; simp only [intOf]; omega⟩
        · have z2 : ¬ ((bs : Int) < (N : Int)) := by omega
          go_wp2
          go_end0
          have h_ := HW.out.2.1.2 0
          rw [Nat.zero_mul, Nat.zero_add, Nat.one_mul, Nat.min_eq_right (by omega)] at h_
          exact ⟨rfl, y2, HW.out.1, ⟨HW.out.2.1.1, h_⟩, HW.out.2.2⟩
set_option maxRecDepth 100000 in
theorem sort_nodes (w0 w : World) (b1 gd cap : Nat) (t : Addr) (x : List S106) (xs : List Int) (N : Nat) (hN : xs.length = N) (hS : Srt w0 w b1 gd cap t x xs) (hlen : N ≤ 1000000000000) (hO : OrdC (NdS x) (cmpD x)) (hP : ∀ u ∈ xs, NdS x u) :
    Calls Try.prog 80 #[.slice (some ⟨gd, 0, none⟩) N cap, .func (.func 81) #[] #[.pointer (some ⟨b1, 0, none⟩)]] w fun e w' => e = .returned (.tuple #[]) ∧ ∃ ys : List Int, Srt w0 w' b1 gd cap t x ys ∧ (ys.Perm xs ∧ SegS (cmpD x) ys 0 N) ∧ w.grownBy w' (some gd) := by
  have HS := Aside0.mk hS
  have HO := Aside0.mk (And.intro hO hP)
  clear hS hO hP
  go_enter Try.func80, Try.ntmps80
  go_wp2_with ((go_at_call 103; refine (stable_calls w0 _ b1 gd cap t x xs N hN HS.out hlen HO.out.1 HO.out.2).mono ?_; rintro e w2 ⟨rfl, zs, hz2, hzp, hzg⟩; have HZ := Aside0.mk (And.intro hz2 (And.intro hzp hzg)); clear hz2 hzp hzg))
  go_end0
  exact ⟨rfl, zs, HZ.out.1, HZ.out.2.1, HZ.out.2.2⟩
end Go.Proofs.Ytgfmplhpoblleaa.FailW
end
