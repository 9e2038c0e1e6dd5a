/- The plain laws of rank: what the printed functions come to, in numbers and lists. -/
import Derived.Test.YtgfmplhpoblleaaRankP
import Derived.Test.YtgfmplhpoblleaaPRankLx4
namespace Go.Proofs.Ytgfmplhpoblleaa.RankP
open Go.RowKit Go.Proofs.YtgfmplhpoblleaaW.PrintWords Go.Proofs.YtgfmplhpoblleaaW.PrintLast Go.Proofs.Ytgfmplhpoblleaa.PRank Go.Proofs.Ytgfmplhpoblleaa.PRankL Go.Proofs.Ytgfmplhpoblleaa.RankW Go.Proofs.Ytgfmplhpoblleaa.RankD
open Go.Proofs.Ytgfmplhpoblleaa Go.Proofs.Ytgfmplhpoblleaa.Cmps
set_option linter.unusedVariables false
set_option linter.unusedSimpArgs false

theorem law6 (x y z : S33) : ∃ k, paronymlaw29_RankCompares.f k x.f0 x.f1 x.f2 x.f3 x.f4 y.f0 y.f1 y.f2 y.f3 y.f4 z.f0 z.f1 z.f2 z.f3 z.f4 = some true := by
  refine ⟨5000 + 1, ?_⟩
  unfold paronymlaw29_RankCompares.f
  rw [awake_f _ (by omega)]
  simp only [Option.bind_some, if_true]
  obtain ⟨b, hb, hbx⟩ := small_f [(⟨x.f0, x.f1, x.f2, x.f3, x.f4⟩ : S33), (⟨y.f0, y.f1, y.f2, y.f3, y.f4⟩ : S33), (⟨z.f0, z.f1, z.f2, z.f3, z.f4⟩ : S33)] (5000 + 1) (by omega)
  rw [hb]
  simp only [Option.bind_some, paronymlaw29_RankCompares.j0]
  cases b with
  | false => rw [if_pos (by simp), awake_f _ (by omega)]; rfl
  | true =>
    obtain ⟨-, hs⟩ := hbx rfl
    have hx : x.f0.length ≤ 70 := hs _ (by simp)
    have hy : y.f0.length ≤ 70 := hs _ (by simp)
    have hz : z.f0.length ≤ 70 := hs _ (by simp)
    have hc := fun (a b : S33) (h : a.f0.length ≤ 70) => compare_f a b (by omega) 5000 (by omega)
    rw [if_neg (by simp), hc x y hx, refcmp_f x y (by omega) (by omega) 5000 (by omega), hc y x hy, hc x x hx, hc y z hy, hc x z hx]
    simp only [Option.bind_some]
    have e1 := cmpF_cmp.anti x y
    have e2 := cmpF_cmp.refl x
    have b1 : -1 ≤ cmpF x y ∧ cmpF x y ≤ 1 := cmpF_within x y
    rw [if_pos trivial, if_pos (by rw [RankW.wrap_small _ (by omega) (by omega)]; exact e1), if_pos e2]
    by_cases h1 : cmpF x y > 0
    · rw [if_pos h1]
    · rw [if_neg h1]
      by_cases h2 : cmpF y z > 0
      · rw [if_pos h2]
      · rw [if_neg h2, decide_eq_true (cmpF_cmp.le x y z (by omega) (by omega))]

end Go.Proofs.Ytgfmplhpoblleaa.RankP
