/- The plain laws of rank: what the printed functions come to, in numbers and lists. -/
import Derived.Test.YtgfmplhpoblleaaPRankLx1
import Derived.Test.YtgfmplhpoblleaaPRankx
namespace Go.Proofs.Ytgfmplhpoblleaa.RankP
open Go.RowKit Go.Proofs.YtgfmplhpoblleaaW.PrintWords Go.Proofs.YtgfmplhpoblleaaW.PrintLast Go.Proofs.Ytgfmplhpoblleaa.PRank Go.Proofs.Ytgfmplhpoblleaa.PRankL Go.Proofs.Ytgfmplhpoblleaa.RankW Go.Proofs.Ytgfmplhpoblleaa.RankD
open Go.Proofs.Ytgfmplhpoblleaa Go.Proofs.Ytgfmplhpoblleaa.Cmps
set_option linter.unusedVariables false
set_option linter.unusedSimpArgs false

theorem rd_at (x : List Int) (i : Nat) (h : i < x.length) : rd x (i : Int) = x[i] := by unfold rd; simp [h]
theorem rdT (l : List S33) (i : Nat) (h : i < l.length) : rd_T33 l (i : Int) = l[i] := by unfold rd_T33; simp [h]

theorem ref_len (x y : List Int) (hx : x.length ≤ 1000000) (hy : y.length ≤ 1000000) (d : Nat) : ∀ (k i : Nat), x.length - i = d → i ≤ x.length → i ≤ y.length → 2 * d + 2 ≤ k → paronymref01_Compare.l0 k x y (i : Int) = some (cmpL (x.drop i) (y.drop i)) := by
  induction d with
  | zero =>
    intro k i hd hi hj hk
    obtain ⟨k, rfl⟩ : ∃ m, k = m + 2 := ⟨k - 2, by omega⟩
    simp only [paronymref01_Compare.l0, paronymref01_Compare.j1]
    rw [if_neg (by omega), List.drop_of_length_le (by omega : x.length ≤ i)]
    simp only [Bool.false_eq_true, if_false]
    by_cases h : (x.length : Int) < (y.length : Int)
    · rw [if_pos h, List.drop_eq_getElem_cons (by omega : i < y.length)]; rfl
    · rw [if_neg h, if_neg (by omega), List.drop_of_length_le (by omega : y.length ≤ i)]; rfl
  | succ d ih =>
    intro k i hd hi hj hk
    obtain ⟨k, rfl⟩ : ∃ m, k = m + 2 := ⟨k - 2, by omega⟩
    simp only [paronymref01_Compare.l0, paronymref01_Compare.j1]
    have hlt : i < x.length := by omega
    rw [if_pos (by omega), List.drop_eq_getElem_cons hlt]
    by_cases h : i < y.length
    · rw [if_pos (by simp; omega), if_pos (by omega), if_pos (by omega), if_pos (by omega), rd_at x i hlt, rd_at y i h, RankW.wrap_small _ (by omega) (by omega), List.drop_eq_getElem_cons h]
      simp only [cmpL]
      by_cases h1 : x[i] < y[i]
      · rw [if_pos h1, if_pos h1]
      · rw [if_neg h1, if_neg h1]
        by_cases h2 : x[i] > y[i]
        · rw [if_pos h2, if_pos (by omega)]
        · rw [if_neg h2, if_neg (by omega)]
          have := ih k (i + 1) (by omega) (by omega) (by omega) (by omega)
          rw [← this]; congr 1
    · rw [if_neg (by simp; omega), if_neg (by omega), if_pos (by omega), List.drop_of_length_le (by omega : y.length ≤ i)]; rfl
theorem ref_cmp (x y : List Int) (hx : x.length ≤ 1000000) (hy : y.length ≤ 1000000) (k : Nat) (hk : 2 * x.length + 2 ≤ k) : paronymref01_Compare.f k x y = some (cmpL x y) := by
  have := ref_len x y hx hy x.length k 0 (by omega) (by omega) (by omega) hk
  unfold paronymref01_Compare.f
  simpa using this
theorem ref_same (x y : List Int) (hx : x.length ≤ 1000000) (hy : y.length ≤ 1000000) (k : Nat) (hk : 2 * x.length + 2 ≤ k) : paronymref01_Same.f k x y = some (decide (x = y)) := by
  unfold paronymref01_Same.f
  rw [ref_cmp x y hx hy k hk]
  simp only [Option.bind_some]
  by_cases h : x = y
  · have := cmpL_eq.2 h; rw [this]; simp [h]
  · have : cmpL x y ≠ 0 := fun e => h (cmpL_eq.1 e)
    simp [h, this]

/-- Of a size at which the statements speak. -/
def Sm (l : List S33) : Prop := l.length ≤ 1000 ∧ ∀ x ∈ l, x.f0.length ≤ 1000

theorem numbers_f (a b : Int) : paronymref29_numbers.f a b = some (cmpI a b) := by
  unfold paronymref29_numbers.f cmpI
  by_cases h : a < b
  · rw [if_pos h, if_pos h]
  · rw [if_neg h, if_neg h]
    by_cases h2 : a > b
    · rw [if_pos h2, if_pos (by omega)]
    · rw [if_neg h2, if_neg (by omega)]
theorem refcmp_f (x y : S33) (hx : x.f0.length ≤ 1000) (hy : y.f0.length ≤ 1000) (k : Nat) (hk : 2002 ≤ k) : paronymref29_Compare.f k x.f0 x.f1 x.f2 x.f3 x.f4 y.f0 y.f1 y.f2 y.f3 y.f4 = some (cmpF x y) := by
  unfold paronymref29_Compare.f cmpF
  rw [ref_same x.f0 y.f0 (by omega) (by omega) k (by omega), ref_cmp x.f0 y.f0 (by omega) (by omega) k (by omega), numbers_f, numbers_f, numbers_f]
  simp only [Option.bind_some, orI]
  by_cases h3 : x.f3 = y.f3
  · have e : cmpI (num x.f3) (num y.f3) = 0 := cmpI_eq.2 (by rw [h3])
    rw [if_neg (by simp [h3]), e, if_pos rfl]
    by_cases h4 : x.f4 = y.f4
    · have e4 := cmpI_eq.2 h4
      rw [if_pos h4, e4, if_pos rfl]
      by_cases h0 : x.f0 = y.f0
      · have e0 := cmpL_eq.2 h0
        rw [if_pos (by simp [h0]), e0, if_pos rfl]
        by_cases h1 : x.f1 = y.f1
        · have e1 := cmpI_eq.2 h1
          rw [if_pos h1, e1, if_pos rfl]
          by_cases h2 : cmpI x.f2 y.f2 = 0
          · rw [if_pos h2, h2]
          · rw [if_neg h2]
        · have e1 : ¬ cmpI x.f1 y.f1 = 0 := fun e => h1 (cmpI_eq.1 e)
          rw [if_neg h1, if_neg e1]
      · have e0 : ¬ cmpL x.f0 y.f0 = 0 := fun e => h0 (cmpL_eq.1 e)
        rw [if_neg (by simp [h0]), if_neg e0]
    · have e4 : ¬ cmpI x.f4 y.f4 = 0 := fun e => h4 (cmpI_eq.1 e)
      rw [if_neg h4, if_neg e4]
  · have e : ¬ cmpI (num x.f3) (num y.f3) = 0 := fun e => h3 (num_inj (cmpI_eq.1 e))
    rw [if_pos (by simp [h3]), if_neg e]
    revert h3
    cases x.f3 <;> cases y.f3 <;> simp [num, cmpI]

theorem one_f (x y : S33) (hx : x.f0.length ≤ 1000) (hy : y.f0.length ≤ 1000) (k : Nat) (hk : 2002 ≤ k) : ∃ b, paronymref28_One.f k x.f0 x.f1 x.f2 x.f3 x.f4 y.f0 y.f1 y.f2 y.f3 y.f4 = some b ∧ (b = true ↔ x = y) := by
  unfold paronymref28_One.f
  rw [ref_same x.f0 y.f0 (by omega) (by omega) k (by omega)]
  simp only [Option.bind_some]
  by_cases h0 : x.f0 = y.f0
  · rw [if_pos (by simp [h0])]
    by_cases h1 : x.f1 = y.f1
    · rw [if_pos h1]
      by_cases h2 : x.f2 = y.f2
      · rw [if_pos h2]
        by_cases h3 : x.f3 = y.f3
        · rw [if_pos (by simp [h3])]
          refine ⟨_, rfl, ?_⟩
          rw [beq_iff_eq]
          constructor
          · intro h4; cases x; cases y; simp at h0 h1 h2 h3 h4; subst h0 h1 h2 h3 h4; rfl
          · rintro rfl; rfl
        · rw [if_neg (by simp [h3])]; exact ⟨_, rfl, by simp; rintro rfl; exact h3 rfl⟩
      · rw [if_neg h2]; exact ⟨_, rfl, by simp; rintro rfl; exact h2 rfl⟩
    · rw [if_neg h1]; exact ⟨_, rfl, by simp; rintro rfl; exact h1 rfl⟩
  · rw [if_neg (by simp [h0])]; exact ⟨_, rfl, by simp; rintro rfl; exact h0 rfl⟩

theorem same_l (l : List S33) (hl : Sm l) (d : Nat) : ∀ (k i : Nat), l.length - i = d → i ≤ l.length → 2003 + d ≤ k → paronymref28_Same.l0 k l l (i : Int) = some true := by
  have hl1 := hl.1
  induction d with
  | zero =>
    intro k i hd hi hk
    obtain ⟨k, rfl⟩ : ∃ m, k = m + 1 := ⟨k - 1, by omega⟩
    simp only [paronymref28_Same.l0]
    rw [if_neg (by omega)]
  | succ d ih =>
    intro k i hd hi hk
    obtain ⟨k, rfl⟩ : ∃ m, k = m + 1 := ⟨k - 1, by omega⟩
    have hlt : i < l.length := by omega
    simp only [paronymref28_Same.l0]
    rw [if_pos (by omega), if_pos (by omega), if_pos (by omega), rdT l i hlt]
    obtain ⟨b, hb, hbe⟩ := one_f l[i] l[i] (hl.2 _ (List.getElem_mem _)) (hl.2 _ (List.getElem_mem _)) k (by omega)
    rw [hb]
    have := hbe.2 rfl
    subst this
    simp only [Option.bind_some, if_true]
    rw [RankW.wrap_small _ (by omega) (by omega)]
    have := ih k (i + 1) (by omega) (by omega) (by omega)
    rw [← this]; congr 1
theorem same_f (l : List S33) (hl : Sm l) (k : Nat) (hk : 3003 ≤ k) : paronymref28_Same.f k l l = some true := by
  unfold paronymref28_Same.f
  rw [if_pos rfl]
  exact same_l l hl l.length k 0 (by omega) (by omega) (by have := hl.1; omega)

/-! ### The document's sort -/
theorem put_app (x : S33) (B : List S33) : ∀ A : List S33, (∀ a ∈ A, cmpF a x < 0) → put x (A ++ B) = A ++ put x B
  | [], _ => rfl
  | a :: A, h => by
    have ha := h a List.mem_cons_self
    have := cmpF_cmp.anti a x
    show put x (a :: (A ++ B)) = a :: (A ++ put x B)
    simp only [put]
    rw [if_neg (by omega), if_neg (by omega), put_app x B A (fun b hb => h b (List.mem_cons_of_mem _ hb))]
theorem put_first (x : S33) : ∀ B : List S33, (∀ b ∈ B, 0 < cmpF b x) → put x B = x :: B
  | [], _ => rfl
  | b :: B, h => by
    have hb := h b List.mem_cons_self
    have := cmpF_cmp.anti b x
    simp only [put]
    rw [if_pos (by omega)]
theorem put_there (x : S33) : ∀ l : List S33, l.Pairwise (fun a b => cmpF a b < 0) → x ∈ l → put x l = l
  | [], _, h => by cases h
  | a :: l, hp, h => by
    obtain ⟨h1, h2⟩ := List.pairwise_cons.1 hp
    simp only [put]
    rcases List.mem_cons.1 h with rfl | h
    · rw [if_neg (by have := cmpF_cmp.refl x; omega), if_pos (cmpF_cmp.refl x)]
    · have := h1 x h
      have e := cmpF_cmp.anti a x
      rw [if_neg (by omega), if_neg (by omega), put_there x l h2 h]
theorem put_len (x : S33) : ∀ l : List S33, (put x l).length ≤ l.length + 1
  | [] => by simp [put]
  | a :: l => by
    simp only [put]
    split
    · simp
    · split
      · simp
      · have := put_len x l; simp; omega

theorem inner (x0 out : List S33) (i : Nat) (hi : i < x0.length) (hx0 : Sm x0) (hout : Sm out) (hr : out.Pairwise (fun a b => cmpF a b < 0)) (K : Nat) (R : Option (List S33))
    (hnext : ∀ k, K ≤ k → paronymref29_Sort.l0 k x0 (put x0[i] out) ((i + 1 : Nat) : Int) = R) :
    ∀ (n k : Nat), n ≤ out.length → (∀ j (hj : j < out.length), n ≤ j → 0 < cmpF out[j] x0[i]) → K + n + 2010 ≤ k → paronymref29_Sort.l1 k x0 out (i : Int) (n : Int) = R := by
  have hl0 := hx0.1
  have hlo := hout.1
  have hsp : ∀ n, n ≤ out.length → (∀ j (hj : j < out.length), n ≤ j → 0 < cmpF out[j] x0[i]) → (∀ a ∈ out.take n, cmpF a x0[i] < 0) → put x0[i] out = (([] : List S33) ++ out.take n ++ [(⟨x0[i].f0, x0[i].f1, x0[i].f2, x0[i].f3, x0[i].f4⟩ : S33)]) ++ out.drop n := by
    intro n hn hb ha
    have e : put x0[i] (out.take n ++ out.drop n) = out.take n ++ put x0[i] (out.drop n) := put_app _ _ _ ha
    rw [List.take_append_drop] at e
    rw [e, put_first]
    · simp
    · intro b hbm
      obtain ⟨j, hj, rfl⟩ := List.getElem_of_mem hbm
      rw [List.getElem_drop]
      rw [List.length_drop] at hj
      exact hb _ (by omega) (by omega)
  intro n
  induction n with
  | zero =>
    intro k hn hb hk
    obtain ⟨k, rfl⟩ : ∃ m, k = m + 1 := ⟨k - 1, by omega⟩
    simp only [paronymref29_Sort.l1]
    have hh := hsp 0 (by omega) hb (by simp)
    rw [if_neg (by omega), if_pos (by omega), if_pos (by omega)]
    simp only [Option.bind_some]
    rw [if_pos (by simp), if_pos (by omega), if_pos (by omega), if_pos (by simp)]
    rw [if_pos (by simp; omega), rdT x0 i hi, RankW.wrap_small _ (by omega) (by omega)]
    have := hnext k (by omega)
    rw [hh] at this
    rw [← this]; congr 1
  | succ n ih =>
    intro k hn hb hk
    obtain ⟨k, rfl⟩ : ∃ m, k = m + 1 := ⟨k - 1, by omega⟩
    have hno : n < out.length := by omega
    have w1 : wrap64 (((n + 1 : Nat) : Int) - 1) = (n : Int) := by rw [RankW.wrap_small _ (by omega) (by omega)]; omega
    have hc := refcmp_f out[n] x0[i] (hout.2 _ (List.getElem_mem _)) (hx0.2 _ (List.getElem_mem _)) k (by omega)
    simp only [paronymref29_Sort.l1]
    rw [if_pos (by omega), w1, if_pos (by omega), if_pos (by omega), if_pos (by omega), if_pos (by omega), rdT out n hno, rdT x0 i hi, hc]
    simp only [Option.bind_some]
    by_cases h1 : cmpF out[n] x0[i] > 0
    · rw [if_pos h1]
      refine ih k (by omega) (fun j hj hnj => ?_) (by omega)
      rcases Nat.eq_or_lt_of_le hnj with rfl | h
      · exact h1
      · exact hb j hj (by omega)
    · rw [if_neg h1]
      by_cases h2 : cmpF out[n] x0[i] = 0
      · rw [if_pos h2, RankW.wrap_small _ (by omega) (by omega)]
        have e := cmpF_eq _ _ h2
        have := hnext k (by omega)
        rw [put_there _ _ hr (by rw [← e]; exact List.getElem_mem _)] at this
        rw [← this]; congr 1
      · have ha : ∀ a ∈ out.take (n + 1), cmpF a x0[i] < 0 := by
          intro a ham
          obtain ⟨j, hj, rfl⟩ := List.getElem_of_mem ham
          rw [List.length_take] at hj
          rw [List.getElem_take]
          rcases Nat.eq_or_lt_of_le (show j ≤ n by omega) with rfl | h
          · omega
          · have := List.pairwise_iff_getElem.1 hr j n (by omega) hno h
            exact cmpF_cmp.lt_le _ _ _ this (by omega)
        have hh := hsp (n + 1) hn hb ha
        rw [if_neg h2, if_pos (by omega), if_pos (by omega)]
        have e3 : ((n + 1 : Nat) : Int).toNat = n + 1 := by omega
        rw [e3]
        rw [if_pos (by simp; omega), if_pos (by simp; omega), if_pos (by simp; omega), RankW.wrap_small _ (by omega) (by omega)]
        have := hnext k (by omega)
        rw [hh] at this
        rw [← this]; congr 1

/-- The finds of the first so many, in their order, each once. -/
def fput : List S33 → List S33 → List S33
  | out, [] => out
  | out, x :: r => fput (put x out) r
theorem fput_props : ∀ (r out : List S33), out.Pairwise (fun a b => cmpF a b < 0) → (fput out r).Pairwise (fun a b => cmpF a b < 0) ∧ (∀ x, x ∈ fput out r ↔ x ∈ out ∨ x ∈ r)
  | [], out, h => ⟨h, fun x => by simp [fput]⟩
  | y :: r, out, h => by
    obtain ⟨h1, h2⟩ := fput_props r (put y out) (put_rising y out h)
    refine ⟨h1, fun x => ?_⟩
    show x ∈ fput (put y out) r ↔ _
    rw [h2, put_mem, List.mem_cons]
    constructor
    · rintro ((h | h) | h)
      · exact .inr (.inl h)
      · exact .inl h
      · exact .inr (.inr h)
    · rintro (h | h | h)
      · exact .inl (.inr h)
      · exact .inl (.inl h)
      · exact .inr h
theorem fput_sort (l : List S33) : fput [] l = fsort l := by
  obtain ⟨h1, h2⟩ := fput_props l [] List.Pairwise.nil
  exact fsort_unique h1 (fun x => by rw [h2]; simp)
theorem fput_len : ∀ (r out : List S33), (fput out r).length ≤ out.length + r.length
  | [], out => by simp [fput]
  | y :: r, out => by have := fput_len r (put y out); have := put_len y out; simp only [fput, List.length_cons]; omega

set_option maxRecDepth 100000 in
theorem sort_l (x0 : List S33) (hx0 : Sm x0) (d : Nat) : ∀ (k i : Nat) (out : List S33), x0.length - i = d → i ≤ x0.length → out.length ≤ i → (∀ x ∈ out, x ∈ x0) → out.Pairwise (fun a b => cmpF a b < 0) → 2020 + 3020 * d + 1010 ≤ k → paronymref29_Sort.l0 k x0 out (i : Int) = some (fput out (x0.drop i)) := by
  have hl0 := hx0.1
  induction d with
  | zero =>
    intro k i out hd hi ho hm hr hk
    obtain ⟨k, rfl⟩ : ∃ m, k = m + 1 := ⟨k - 1, by omega⟩
    simp only [paronymref29_Sort.l0]
    rw [if_neg (by omega), List.drop_of_length_le (by omega)]; rfl
  | succ d ih =>
    intro k i out hd hi ho hm hr hk
    obtain ⟨k, rfl⟩ : ∃ m, k = m + 1 := ⟨k - 1, by omega⟩
    have hlt : i < x0.length := by omega
    simp only [paronymref29_Sort.l0]
    rw [if_pos (by omega), List.drop_eq_getElem_cons hlt]
    obtain ⟨Q, hQ⟩ : ∃ Q, Q = 2020 + 3020 * d + 1010 := ⟨_, rfl⟩
    have hQk : Q + out.length + 2010 ≤ k := by omega
    refine inner x0 out i hlt hx0 ⟨by omega, fun x hx => hx0.2 x (hm x hx)⟩ hr Q _ (fun k hk => ?_) out.length k (Nat.le_refl _) (fun j hj hlj => absurd hj (by omega)) hQk
    rw [hQ] at hk
    exact ih k (i + 1) (put x0[i] out) (by omega) (by omega) (by have := put_len x0[i] out; omega) (fun x hx => by
      rcases (put_mem _ _ _).1 hx with rfl | hx
      · exact List.getElem_mem _
      · exact hm x hx) (put_rising _ _ hr) hk
theorem refsort_f (l : List S33) (hl : Sm l) (k : Nat) (hk : 2020 + 3020 * 1000 + 1010 ≤ k) : paronymref29_Sort.f k l = some (fsort l) := by
  unfold paronymref29_Sort.f
  have hb : 2020 + 3020 * l.length + 1010 ≤ k := by have := hl.1; omega
  have := sort_l l hl l.length k 0 [] (by omega) (by omega) (Nat.le_refl _) (fun x hx => by cases hx) List.Pairwise.nil hb
  rw [List.drop_zero, fput_sort] at this
  exact this

/-! ### Is it in order? -/
def rises : List S33 → Bool
  | [] => true
  | [_] => true
  | x :: y :: r => decide (cmpF x y < 0) && rises (y :: r)
theorem sorted_l (l : List S33) (hl : Sm l) (d : Nat) : ∀ (k i : Nat), l.length - (i + 1) = d → 1100 + d ≤ k → rank_Sorted.l0 k l ((i + 1 : Nat) : Int) = some (rises (l.drop i)) := by
  have hl1 := hl.1
  induction d with
  | zero =>
    intro k i hd hk
    obtain ⟨k, rfl⟩ : ∃ m, k = m + 1 := ⟨k - 1, by omega⟩
    simp only [rank_Sorted.l0]
    rw [if_neg (by omega)]
    rcases Nat.lt_or_ge i l.length with h | h
    · rw [List.drop_eq_getElem_cons h, List.drop_of_length_le (by omega)]; rfl
    · rw [List.drop_of_length_le h]; rfl
  | succ d ih =>
    intro k i hd hk
    obtain ⟨k, rfl⟩ : ∃ m, k = m + 1 := ⟨k - 1, by omega⟩
    have h1 : i < l.length := by omega
    have h2 : i + 1 < l.length := by omega
    have w1 : wrap64 (((i + 1 : Nat) : Int) - 1) = (i : Int) := by rw [RankW.wrap_small _ (by omega) (by omega)]; omega
    simp only [rank_Sorted.l0]
    rw [if_pos (by omega), w1, if_pos (by omega), if_pos (by omega), if_pos (by omega), rdT l i h1, rdT l (i + 1) h2, compare_f l[i] l[i + 1] (by have := hl.2 _ (List.getElem_mem h1); omega) k (by have := hl.2 _ (List.getElem_mem h1); omega)]
    simp only [Option.bind_some]
    rw [List.drop_eq_getElem_cons h1, List.drop_eq_getElem_cons h2]
    simp only [rises]
    by_cases h : cmpF l[i] l[i + 1] ≥ 0
    · rw [if_pos h, decide_eq_false (by omega)]; rfl
    · rw [if_neg h, decide_eq_true (by omega), Bool.true_and, RankW.wrap_small _ (by omega) (by omega)]
      have := ih k (i + 1) (by omega) (by omega)
      rw [← List.drop_eq_getElem_cons h2, ← this]; congr 1
theorem sorted_f (l : List S33) (hl : Sm l) (k : Nat) (hk : 2200 ≤ k) : rank_Sorted.f k l = some (rises l) := by
  unfold rank_Sorted.f
  have := sorted_l l hl (l.length - 1) k 0 (by omega) (by have := hl.1; omega)
  rw [List.drop_zero] at this
  rw [← this]; congr 1
theorem rises_of : ∀ l : List S33, l.Pairwise (fun a b => cmpF a b < 0) → rises l = true
  | [], _ => rfl
  | [_], _ => rfl
  | x :: y :: r, h => by
    obtain ⟨h1, h2⟩ := List.pairwise_cons.1 h
    simp only [rises]
    rw [decide_eq_true (h1 y List.mem_cons_self), rises_of (y :: r) h2]; rfl

theorem small_l (l : List S33) (hl : l.length ≤ 60) (d : Nat) : ∀ (k i : Nat), l.length - i = d → i ≤ l.length → d < k → ∃ b, paronymlaw29_small.l0 k l (i : Int) = some b ∧ (b = true → ∀ x ∈ l.drop i, x.f0.length ≤ 70) := by
  induction d with
  | zero =>
    intro k i hd hi hk
    obtain ⟨k, rfl⟩ : ∃ m, k = m + 1 := ⟨k - 1, by omega⟩
    simp only [paronymlaw29_small.l0]
    rw [if_neg (by omega), List.drop_of_length_le (by omega)]
    exact ⟨true, rfl, fun _ x hx => by cases hx⟩
  | succ d ih =>
    intro k i hd hi hk
    obtain ⟨k, rfl⟩ : ∃ m, k = m + 1 := ⟨k - 1, by omega⟩
    have hlt : i < l.length := by omega
    simp only [paronymlaw29_small.l0]
    rw [if_pos (by omega), if_pos (by omega), rdT l i hlt, List.drop_eq_getElem_cons hlt, RankW.wrap_small _ (by omega) (by omega)]
    by_cases h : (l[i].f0.length : Int) > 70
    · rw [if_pos h]; exact ⟨false, rfl, fun h => by cases h⟩
    · rw [if_neg h]
      obtain ⟨b, hb, hbx⟩ := ih k (i + 1) (by omega) (by omega) (by omega)
      refine ⟨b, by rw [← hb]; congr 1, fun h2 x hx => ?_⟩
      rcases List.mem_cons.1 hx with rfl | hx
      · omega
      · exact hbx h2 x hx
theorem small_f (l : List S33) (k : Nat) (hk : 70 ≤ k) : ∃ b, paronymlaw29_small.f k l = some b ∧ (b = true → l.length ≤ 60 ∧ ∀ x ∈ l, x.f0.length ≤ 70) := by
  unfold paronymlaw29_small.f
  by_cases h : (l.length : Int) > 60
  · rw [if_pos h]; exact ⟨false, rfl, fun h => by cases h⟩
  · rw [if_neg h]
    obtain ⟨b, hb, hbx⟩ := small_l l (by omega) l.length k 0 (by omega) (by omega) (by omega)
    exact ⟨b, hb, fun h2 => ⟨by omega, fun x hx => hbx h2 x (by simpa using hx)⟩⟩

theorem fits_of {l : List S33} (h : Sm l) : fits l = true := by
  unfold fits
  rw [Bool.and_eq_true, decide_eq_true_eq, List.all_eq_true]
  exact ⟨by have := h.1; omega, fun x hx => decide_eq_true (by have := h.2 x hx; omega)⟩
theorem fsort_sm {l : List S33} (h : Sm l) : Sm (fsort l) := by
  refine ⟨?_, fun x hx => h.2 x ((fsort_mem l x).1 hx)⟩
  have := fput_len l []
  rw [fput_sort] at this
  have := h.1
  simp at *; omega
theorem Sort_f {l : List S33} (h : Sm l) : rank_Sort.f l = some (fsort l) := by unfold rank_Sort.f; rw [if_pos (fits_of h)]

theorem awake_f (k : Nat) (hk : 2200 ≤ k) : paronymlaw29_awake.f k = some true := by
  unfold paronymlaw29_awake.f
  have hs : Sm [(⟨([] : List Int), 0, 0, false, 2⟩ : S33), (⟨([] : List Int), 1, 0, true, 0⟩ : S33)] := ⟨by simp, by simp⟩
  rw [Sort_f hs]
  have e : fsort [(⟨([] : List Int), 0, 0, false, 2⟩ : S33), (⟨([] : List Int), 1, 0, true, 0⟩ : S33)] = [(⟨([] : List Int), 1, 0, true, 0⟩ : S33), (⟨([] : List Int), 0, 0, false, 2⟩ : S33)] := by
    simp [fsort, put, cmpF, num, cmpI, cmpL, orI]
  rw [e]
  simp only [Option.bind_some]
  rw [if_pos (by simp), if_pos (by simp)]
  have e2 : rd_T33 [(⟨([] : List Int), 1, 0, true, 0⟩ : S33), (⟨([] : List Int), 0, 0, false, 2⟩ : S33)] 0 = ⟨([] : List Int), 1, 0, true, 0⟩ := rfl
  rw [e2, if_pos rfl, sorted_f _ ⟨by simp, by simp⟩ k hk]
  simp [rises, cmpF, num, cmpI, cmpL, orI]

/-! ### The three statements -/
theorem cmpI_within (a b : Int) : -1 ≤ cmpI a b ∧ cmpI a b ≤ 1 := by unfold cmpI; split <;> (try split) <;> omega
theorem cmpL_within : ∀ a b : List Int, -1 ≤ cmpL a b ∧ cmpL a b ≤ 1
  | [], [] => by simp [cmpL]
  | [], _ :: _ => by simp [cmpL]
  | _ :: _, [] => by simp [cmpL]
  | a :: l, b :: m => by simp only [cmpL]; have := cmpL_within l m; split <;> (try split) <;> omega
theorem cmpF_within (x y : S33) : -1 ≤ cmpF x y ∧ cmpF x y ≤ 1 := by
  unfold cmpF
  have a1 := cmpI_within (num x.f3) (num y.f3)
  have a2 := cmpI_within x.f4 y.f4
  have a3 := cmpL_within x.f0 y.f0
  have a4 := cmpI_within x.f1 y.f1
  have a5 := cmpI_within x.f2 y.f2
  simp only [orI]
  repeat' split
  all_goals omega

end Go.Proofs.Ytgfmplhpoblleaa.RankP
