/- What is proved: whatever the input, paronymlaw29.RankCompares returns true and the input reads behind it as it did before. Conditions: none beyond the given statement. -/
import Derived.Test.YtgfmplhpoblleaaRows
import Derived.Test.YtgfmplhpoblleaaRankO
import Derived.Test.YtgfmplhpoblleaaOpenKd
import Derived.Test.YtgfmplhpoblleaaRankP6
import Derived.WalkKit
import Derived.ProofKit
import Derived.OpenShut
import Derived.ShutString
import Derived.ChangeOld
import Derived.Below
import Derived.Carry
import Derived.SizedLaws
namespace Go.Proofs.Ytgfmplhpoblleaa.rankCompares
open Go.ChangeShapes Go.WideShapes Go.ChangeAt Go.RowKit
open Go.Proofs.Ytgfmplhpoblleaa Go.Proofs.Ytgfmplhpoblleaa.PRank Go.Proofs.Ytgfmplhpoblleaa.PRankL Go.Proofs.Ytgfmplhpoblleaa.RankP Go.Proofs.Ytgfmplhpoblleaa.RankO Go.Proofs.YtgfmplhpoblleaaW.PrintWords
set_option linter.unusedVariables false
theorem own : ownKnob Try.prog.godebug = none := by kernel_rfl
set_option maxRecDepth 100000 in
theorem lifted (os : Os) (started : os.Started) (H : Type) (enc : TypeId × Value → H) :
    ReturnsInHanded {} Try.checked os 6 .any (Rows.rankComparesSpec.pre6 enc Try.prog Try.f6 Rows.rankComparesRow.domain false) (Rows.rankComparesSpec.post enc Try.prog Try.f6 false true false false) := by
  refine returnsInHanded_of_change_sized (C := Try.checked) own started (by kernel_rfl) Try.func6
    (ChangeSpec.witness6 (enc := enc) (C := Try.checked) false ⟨#[], #[.agg #[.slice none 0 0, .int .i64 0, .int .i64 0, .bool false, .int .i64 0], .agg #[.slice none 0 0, .int .i64 0, .int .i64 0, .bool false, .int .i64 0], .agg #[.slice none 0 0, .int .i64 0, .int .i64 0, .bool false, .int .i64 0]], []⟩ 8 (by kernel_rfl) (by kernel_rfl) (by kernel_rfl) (by kernel_rfl)) ?_
  intro W base args ds gs before hval0 hW hcnd hsz0 _
  have hval : ∀ (j : Nat) t v, Try.f6.params[j]? = some t → args[j]? = some v → Value.okWide Try.prog W .any base t v := hval0
  have hW' := hW
  obtain ⟨p, q, hA0, hV, rfl, hfz, hnd⟩ := hW
  have hA : DataW.TrodAll enc Try.prog W 0 (fun _ => true) true Try.f6.params.toList args.toList ds p := hA0
  rw [Try.params6] at hA hval
  obtain ⟨v0, vs0, d0, ds0, p0, q0, hargs, rfl, rfl, h0, r0⟩ := trodAll_cons hA
  obtain ⟨v1, vs1, d1, ds1, p1, q1, rfl, rfl, rfl, h1, r1⟩ := trodAll_cons r0
  obtain ⟨v2, vs2, d2, ds2, p2, q2, rfl, rfl, rfl, h2, r2⟩ := trodAll_cons r1
  obtain ⟨rfl, rfl, rfl⟩ := trodAll_nil r2
  obtain rfl : args = #[v0, v1, v2] := by cases args; simp_all
  obtain ⟨rfl, rfl⟩ := trodVars_none hV
  have lt0 : ∀ x ∈ p0, x.block < W.heap.size := fun x hx => by simpa using hW'.lt x (by simp [hx])
  have k0 := h0
  have lt1 : ∀ x ∈ p1, x.block < W.heap.size := fun x hx => by simpa using hW'.lt x (by simp [hx])
  have k1 := h1
  have lt2 : ∀ x ∈ p2, x.block < W.heap.size := fun x hx => by simpa using hW'.lt x (by simp [hx])
  have k2 := h2
  obtain ⟨cs0, e0, -⟩ := okWide_struct Try.underlying33 (hval 0 33 v0 rfl rfl)
  obtain ⟨x0, c0, A0, ve0, V0⟩ := one33 e0 h0
  subst ve0
  obtain ⟨cs1, e1, -⟩ := okWide_struct Try.underlying33 (hval 1 33 v1 rfl rfl)
  obtain ⟨x1, c1, A1, ve1, V1⟩ := one33 e1 h1
  subst ve1
  obtain ⟨cs2, e2, -⟩ := okWide_struct Try.underlying33 (hval 2 33 v2 rfl rfl)
  obtain ⟨x2, c2, A2, ve2, V2⟩ := one33 e2 h2
  subst ve2
  obtain ⟨k, hk⟩ := law6 x0 x1 x2
  refine (paronymlaw29_RankCompares.calls k _ A0 c0 x0.f0 x0.f1 x0.f2 x0.f3 x0.f4 _ A1 c1 x1.f0 x1.f1 x1.f2 x1.f3 x1.f4 _ A2 c2 x2.f0 x2.f1 x2.f2 x2.f3 x2.f4 true W V0 V1 V2 hk).mono fun e W' ⟨he, bel⟩ => ?_
  subst he
  exact ⟨_, rfl, _, _, _, [], _, [], hW', trodAll_mk1 (shut_bool Try.underlying4 _), (trodAll_cons_mk (Below.trod laid (by kernel_rfl) (of_decide_eq_true (by kernel_rfl)) k0 bel lt0) (trodAll_cons_mk (Below.trod laid (by kernel_rfl) (of_decide_eq_true (by kernel_rfl)) k1 bel lt1) (trodAll_cons_mk (Below.trod laid (by kernel_rfl) (of_decide_eq_true (by kernel_rfl)) k2 bel lt2) trodAll_mk0))), rfl, bel.frame _, fun h => by cases h⟩
theorem over : Rows.rankComparesRow.holds Try.pinned (OpenSpec.ofChange Rows.rankComparesSpec) :=
  OpenClaim.holds_of_wide 6 Try.f6 rfl rfl rfl rfl rfl rfl rfl ⟨rfl, rfl, rfl, rfl, rfl⟩ rfl rfl rfl rfl rfl (by kernel_rfl) Try.func6 (by kernel_rfl)
    (of_decide_eq_true (by kernel_rfl)) (by unfold Func.isWrapper; first | (rw [if_pos (by decide +kernel)]; kernel_rfl) | (rw [if_neg (by decide +kernel)]; exact ⟨rfl, rfl⟩))
    (fun os started H enc _ => lifted os started H enc)
theorem proved : Rows.RankComparesSaid := over
#print axioms proved
end Go.Proofs.Ytgfmplhpoblleaa.rankCompares
namespace Go.Proofs.Ytgfmplhpoblleaa
/-- The row, under a short name, for the claim. -/
theorem rankCompares_holds : Rows.RankComparesSaid := rankCompares.proved
end Go.Proofs.Ytgfmplhpoblleaa
