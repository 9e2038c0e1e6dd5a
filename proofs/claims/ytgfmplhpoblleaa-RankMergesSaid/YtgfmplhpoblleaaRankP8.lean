/- The plain laws of rank: what the printed functions come to, in numbers and lists. -/
import Derived.Test.YtgfmplhpoblleaaRankP
import Derived.Test.YtgfmplhpoblleaaPRankLx3
namespace Go.Proofs.Ytgfmplhpoblleaa.RankP
open Go.RowKit Go.Proofs.YtgfmplhpoblleaaW.PrintWords Go.Proofs.YtgfmplhpoblleaaW.PrintLast Go.Proofs.Ytgfmplhpoblleaa.PRank Go.Proofs.Ytgfmplhpoblleaa.PRankL Go.Proofs.Ytgfmplhpoblleaa.RankW Go.Proofs.Ytgfmplhpoblleaa.RankD
open Go.Proofs.Ytgfmplhpoblleaa Go.Proofs.Ytgfmplhpoblleaa.Cmps
set_option linter.unusedVariables false
set_option linter.unusedSimpArgs false

theorem law8 (l m n : List S33) : ∃ k, paronymlaw29_RankMerges.f k l m n = some true := by
  refine ⟨5000000 + 1, ?_⟩
  unfold paronymlaw29_RankMerges.f
  have hA : ∀ k, 5000000 ≤ k → paronymlaw29_awake.f k = some true := fun k hk => awake_f k (by omega)
  have hS : ∀ l k, 5000000 ≤ k → ∃ b, paronymlaw29_small.f k l = some b ∧ (b = true → l.length ≤ 60 ∧ ∀ x ∈ l, x.f0.length ≤ 70) := fun l k hk => small_f l k (by omega)
  generalize hK : 5000000 = K at *
  have hj : ∀ l m n, paronymlaw29_RankMerges.j0 (K + 1) l m n true = some true := fun l m n => by
    simp only [paronymlaw29_RankMerges.j0]; rw [if_pos trivial, hA K (Nat.le_refl _)]; rfl
  rw [hA (K + 1) (by omega)]
  simp only [Option.bind_some, if_true]
  obtain ⟨b1, hb1, hx1⟩ := hS l (K + 1) (by omega)
  rw [hb1]
  cases b1 with
  | false => simp [hj]
  | true =>
    obtain ⟨b2, hb2, hx2⟩ := hS m (K + 1) (by omega)
    simp only [Option.bind_some, if_true]
    rw [hb2]
    cases b2 with
    | false => simp [hj]
    | true =>
      obtain ⟨b3, hb3, hx3⟩ := hS n (K + 1) (by omega)
      simp only [Option.bind_some, if_true]
      rw [hb3]
      cases b3 with
      | false => simp [hj]
      | true =>
        obtain ⟨l1, l2⟩ := hx1 rfl
        obtain ⟨m1, m2⟩ := hx2 rfl
        obtain ⟨n1, n2⟩ := hx3 rfl
        have hs : Sm (l ++ m ++ n) := ⟨by simp; omega, fun x hx => by
          rcases List.mem_append.1 hx with hx | hx
          · rcases List.mem_append.1 hx with hx | hx
            · have := l2 x hx; omega
            · have := m2 x hx; omega
          · have := n2 x hx; omega⟩
        simp only [Option.bind_some]
        rw [paronymlaw29_RankMerges.j0]
        rw [if_neg (by simp), Option.bind_some, if_pos (by simp; omega)]
        simp only [Option.bind_some]
        rw [if_pos (by simp; omega)]
        rw [if_pos (by simp; omega)]
        have e0 : ([] : List S33) ++ l ++ m ++ n = l ++ m ++ n := rfl
        rw [e0]
        have e : [l, m, n].flatten = l ++ m ++ n := by simp
        have hm : rank_Merge.f [l, m, n] = some (fsort (l ++ m ++ n)) := by unfold rank_Merge.f; rw [e, if_pos (fits_of hs)]
        have hm0 : rank_Merge.f [] = some [] := rfl
        rw [hm, refsort_f _ hs K (by omega), hm0]
        simp only [Option.bind_some]
        rw [same_f _ (fsort_sm hs) K (by omega)]
        rfl

end Go.Proofs.Ytgfmplhpoblleaa.RankP
