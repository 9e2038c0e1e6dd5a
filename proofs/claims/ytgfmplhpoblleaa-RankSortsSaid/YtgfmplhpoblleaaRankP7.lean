/- The plain laws of rank: what the printed functions come to, in numbers and lists. -/
import Derived.Test.YtgfmplhpoblleaaRankP
import Derived.Test.YtgfmplhpoblleaaPRankLx2
namespace Go.Proofs.Ytgfmplhpoblleaa.RankP
open Go.RowKit Go.Proofs.YtgfmplhpoblleaaW.PrintWords Go.Proofs.YtgfmplhpoblleaaW.PrintLast Go.Proofs.Ytgfmplhpoblleaa.PRank Go.Proofs.Ytgfmplhpoblleaa.PRankL Go.Proofs.Ytgfmplhpoblleaa.RankW Go.Proofs.Ytgfmplhpoblleaa.RankD
open Go.Proofs.Ytgfmplhpoblleaa Go.Proofs.Ytgfmplhpoblleaa.Cmps
set_option linter.unusedVariables false
set_option linter.unusedSimpArgs false

theorem rest_f (a : Int) (n : Nat) (h0 : 0 < n) (hn : n ≤ 1000) : ∃ s, paronymref01_Rest.f a n = some s ∧ 0 ≤ s ∧ s < n := by
  unfold paronymref01_Rest.f
  rw [if_neg (by omega)]
  have h1 := Int.tmod_lt_of_pos a (show (0 : Int) < n by omega)
  have h2 : -(n : Int) < a.tmod n := by
    have := Int.lt_tmod_of_pos a (show (0 : Int) < n by omega)
    omega
  refine ⟨_, rfl, ?_, ?_⟩
  · rw [RankW.wrap_small _ (by omega) (by omega)]; exact Int.tmod_nonneg _ (by omega)
  · exact Int.tmod_lt_of_pos _ (by omega)

theorem ups (l : List S33) (hl : Sm l) (A B : List S33) (d : Nat) : ∀ (k i : Nat) (b : Bool) , l.length - (i + 1) = d → 5000 + d ≤ k →
    ∃ k', k - (d + 2) ≤ k' ∧ paronymlaw29_RankSorts.l1 k l A B b ((i + 1 : Nat) : Int) = paronymlaw29_RankSorts.l1 (k' + 1) l A B (b && rises (l.drop i)) (max (i + 1) l.length : Nat) := by
  have hl1 := hl.1
  induction d with
  | zero =>
    intro k i b hd hk
    refine ⟨k - 1, by omega, ?_⟩
    have e : rises (l.drop i) = true := by
      rcases Nat.lt_or_ge i l.length with h | h
      · rw [List.drop_eq_getElem_cons h, List.drop_of_length_le (by omega)]; rfl
      · rw [List.drop_of_length_le h]; rfl
    rw [e, Bool.and_true, Nat.max_eq_left (by omega), Nat.sub_add_cancel (by omega)]
  | succ d ih =>
    intro k i b hd hk
    obtain ⟨k, rfl⟩ : ∃ m, k = m + 1 := ⟨k - 1, by omega⟩
    have h1 : i < l.length := by omega
    have h2 : i + 1 < l.length := by omega
    have w1 : wrap64 (((i + 1 : Nat) : Int) - 1) = (i : Int) := by rw [RankW.wrap_small _ (by omega) (by omega)]; omega
    have w2 : wrap64 (((i + 1 : Nat) : Int) + 1) = ((i + 1 + 1 : Nat) : Int) := by rw [RankW.wrap_small _ (by omega) (by omega)]; omega
    rw [paronymlaw29_RankSorts.l1, if_pos (by omega), w1, w2]
    have em : max (i + 1) l.length = max (i + 1 + 1) l.length := by omega
    have ed : rises (l.drop i) = (decide (cmpF l[i] l[i + 1] < 0) && rises (l.drop (i + 1))) := by
      rw [List.drop_eq_getElem_cons h1, List.drop_eq_getElem_cons h2]; rfl
    rw [em, ed]
    cases b with
    | true =>
      rw [if_pos rfl, if_pos (by omega), if_pos (by omega), if_pos (by omega), rdT l i h1, rdT l (i + 1) h2, refcmp_f _ _ (hl.2 _ (List.getElem_mem _)) (hl.2 _ (List.getElem_mem _)) k (by omega)]
      simp only [Option.bind_some]
      obtain ⟨k', hk', he⟩ := ih k (i + 1) (decide (cmpF l[i] l[i + 1] < 0)) (by omega) (by omega)
      exact ⟨k', by omega, by rw [he, Bool.true_and]⟩
    | false =>
      rw [if_neg (by simp)]
      obtain ⟨k', hk', he⟩ := ih k (i + 1) false (by omega) (by omega)
      exact ⟨k', by omega, by rw [he, Bool.false_and, Bool.false_and]⟩

theorem turns (l : List S33) (hl : Sm l) (A : List S33) (s : Int) (hs : 0 ≤ s ∧ (s < l.length ∨ l = [])) (d : Nat) : ∀ (k i : Nat) (acc : List S33), l.length - i = d → i ≤ l.length → acc.length ≤ 2 * i → (∀ x ∈ acc, x ∈ l) → (∀ x ∈ l.take i, x ∈ acc) → 5000 + d ≤ k →
    ∃ k' acc', k - (d + 1) ≤ k' ∧ paronymlaw29_RankSorts.l0 k l A acc s (i : Int) = paronymlaw29_RankSorts.l1 k' l A acc' true 1 ∧ acc'.length ≤ 2 * l.length ∧ (∀ x, x ∈ acc' ↔ x ∈ l) := by
  have hl1 := hl.1
  induction d with
  | zero =>
    intro k i acc hd hi ha h1 h2 hk
    obtain ⟨k, rfl⟩ : ∃ m, k = m + 1 := ⟨k - 1, by omega⟩
    refine ⟨k, acc, by omega, ?_, by omega, fun x => ⟨h1 x, fun hx => h2 x ?_⟩⟩
    · rw [paronymlaw29_RankSorts.l0, if_neg (by omega)]
    · rw [List.take_of_length_le (by omega)]; exact hx
  | succ d ih =>
    intro k i acc hd hi ha h1 h2 hk
    obtain ⟨k, rfl⟩ : ∃ m, k = m + 1 := ⟨k - 1, by omega⟩
    have hlt : i < l.length := by omega
    have hs2 : s < l.length := by
      rcases hs.2 with h | h
      · exact h
      · rw [h] at hlt; simp at hlt
    have w1 : wrap64 ((i : Int) + s) = i + s := RankW.wrap_small _ (by omega) (by omega)
    have w2 : wrap64 ((i : Int) + 1) = ((i + 1 : Nat) : Int) := by rw [RankW.wrap_small _ (by omega) (by omega)]; omega
    obtain ⟨q, hq⟩ : ∃ q : Nat, ((i : Int) + s).tmod (l.length : Int) = (q : Int) := ⟨(((i : Int) + s).tmod (l.length : Int)).toNat, (Int.toNat_of_nonneg (Int.tmod_nonneg _ (by omega))).symm⟩
    have hq2 : q < l.length := by
      have := Int.tmod_lt_of_pos ((i : Int) + s) (show (0 : Int) < l.length by omega)
      omega
    rw [paronymlaw29_RankSorts.l0, if_pos (by omega), w1, w2, hq, rdT l i hlt, rdT l q hq2, if_neg (by omega), if_pos (by omega), if_pos (by omega), if_pos (by omega)]
    simp only [Option.bind_some]
    rw [if_pos (by simp; omega)]
    have := ih k (i + 1) (acc ++ [l[q], l[i]]) (by omega) (by omega) (by simp; omega) (fun x hx => by
      rcases List.mem_append.1 hx with hx | hx
      · exact h1 x hx
      · simp at hx
        rcases hx with rfl | rfl
        · exact List.getElem_mem _
        · exact List.getElem_mem _) (fun x hx => by
      rw [List.take_succ_eq_append_getElem hlt] at hx
      rcases List.mem_append.1 hx with hx | hx
      · exact List.mem_append.2 (.inl (h2 x hx))
      · exact List.mem_append.2 (.inr (by simp at hx; simp [hx]))) (by omega)
    obtain ⟨k', acc', a1, a2, a3, a4⟩ := this
    exact ⟨k', acc', by omega, a2, a3, a4⟩

theorem last (l acc : List S33) (hl : Sm l) (hacc : Sm acc) (hm : ∀ x, x ∈ acc ↔ x ∈ l) (k : Nat) (hk : 10000 ≤ k) (b : Bool) (hb : b = rises l) (i : Int) (hi : l.length ≤ i) : paronymlaw29_RankSorts.l1 (k + 1) l (fsort l) acc b i = some true := by
  rw [paronymlaw29_RankSorts.l1, if_neg (by omega), Sort_f hl, Sort_f hacc]
  have e : fsort acc = fsort l := fsort_unique (fsort_rising acc) (fun x => by rw [fsort_mem]; exact hm x)
  rw [e]
  simp only [Option.bind_some]
  rw [same_f _ (fsort_sm hl) k (by omega)]
  simp only [Option.bind_some, if_true]
  rw [sorted_f _ hl k (by omega), sorted_f _ (fsort_sm hl) k (by omega), hb, rises_of _ (fsort_rising l)]
  simp

theorem law7 (l : List S33) (a : Int) : ∃ k, paronymlaw29_RankSorts.f k l a = some true := by
  refine ⟨5000000 + 1, ?_⟩
  unfold paronymlaw29_RankSorts.f
  have hA : ∀ k, 5000000 ≤ k → paronymlaw29_awake.f k = some true := fun k hk => awake_f k (by omega)
  have hS : ∀ l k, 5000000 ≤ k → ∃ b, paronymlaw29_small.f k l = some b ∧ (b = true → l.length ≤ 60 ∧ ∀ x ∈ l, x.f0.length ≤ 70) := fun l k hk => small_f l k (by omega)
  generalize hK : 5000000 = K at *
  rw [hA (K + 1) (by omega)]
  simp only [Option.bind_some, if_true]
  obtain ⟨b1, hb1, hx1⟩ := hS l (K + 1) (by omega)
  rw [hb1]
  simp only [Option.bind_some]
  rw [paronymlaw29_RankSorts.j0]
  cases b1 with
  | false => rw [if_pos (by simp), hA K (by omega)]; rfl
  | true =>
    obtain ⟨l1, l2⟩ := hx1 rfl
    have hl : Sm l := ⟨by omega, fun x hx => by have := l2 x hx; omega⟩
    rw [if_neg (by simp), refsort_f l hl K (by omega)]
    simp only [Option.bind_some]
    have tail : ∀ s : Int, 0 ≤ s ∧ (s < l.length ∨ l = []) → paronymlaw29_RankSorts.j1 K l (fsort l) [] s = some true := by
      intro s hs
      obtain ⟨K', rfl⟩ : ∃ m, K = m + 1 := ⟨K - 1, by omega⟩
      rw [paronymlaw29_RankSorts.j1]
      obtain ⟨k1, acc, hk1, e1, e2, e3⟩ := turns l hl (fsort l) s hs l.length K' 0 [] (by omega) (by omega) (by simp) (by simp) (by simp) (by omega)
      obtain ⟨k2, hk2, e4⟩ := ups l hl (fsort l) acc (l.length - 1) k1 0 true (by omega) (by omega)
      have e1' : paronymlaw29_RankSorts.l0 K' l (fsort l) [] s 0 = _ := e1
      have e4' : paronymlaw29_RankSorts.l1 k1 l (fsort l) acc true 1 = _ := e4
      rw [e1', e4']
      exact last l acc hl ⟨by omega, fun x hx => hl.2 x ((e3 x).1 hx)⟩ e3 k2 (by omega) _ (by simp) _ (by omega)
    by_cases h0 : (l.length : Int) > 0
    · rw [if_pos h0]
      obtain ⟨s, hs, hs1, hs2⟩ := rest_f a l.length (by omega) (by omega)
      rw [hs]
      exact tail s ⟨hs1, .inl hs2⟩
    · rw [if_neg h0]
      exact tail 0 ⟨by omega, .inr (List.eq_nil_of_length_eq_zero (by omega))⟩
end Go.Proofs.Ytgfmplhpoblleaa.RankP
