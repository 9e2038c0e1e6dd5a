/- What is proved: whatever the input, MatchStreams returns true and the input reads behind it as it did before. Conditions: none beyond the given statement. -/
import Derived.Test.YtgfmplhpoblleaaRows
import Derived.Test.YtgfmplhpoblleaaMWf
import Derived.Test.YtgfmplhpoblleaaMWo
import Derived.WalkKit
import Derived.ProofKit
import Derived.OpenShut
import Derived.ShutString
import Derived.ChangeOld
import Derived.Below
import Derived.Carry
import Derived.SizedLaws
namespace Go.Proofs.Ytgfmplhpoblleaa.matchStreams
open Go.ChangeShapes Go.WideShapes Go.ChangeAt Go.RowKit
open Go.Proofs.Ytgfmplhpoblleaa Go.Proofs.Ytgfmplhpoblleaa.FailW Go.Proofs.YtgfmplhpoblleaaW.PrintWords
set_option linter.unusedVariables false
theorem own : ownKnob Try.prog.godebug = none := by kernel_rfl
theorem laid : laidOutB Try.prog = true := by kernel_rfl
set_option maxRecDepth 100000 in
theorem lifted (os : Os) (started : os.Started) (H : Type) (enc : TypeId × Value → H) :
    ReturnsInHanded {} Try.checked os 13 .any (Rows.matchStreamsSpec.pre6 enc Try.prog Try.f13 Rows.matchStreamsRow.domain false) (Rows.matchStreamsSpec.post enc Try.prog Try.f13 false true false false) := by
  refine returnsInHanded_of_change_sized (C := Try.checked) own started (by kernel_rfl) Try.func13
    (ChangeSpec.witness6 (enc := enc) (C := Try.checked) false ⟨#[], #[.slice none 0 0, .slice none 0 0, .int .u8 0], []⟩ 8 (by kernel_rfl) (by kernel_rfl) (by kernel_rfl) (by kernel_rfl)) ?_
  intro W base args ds gs before hval0 hW hcnd hsz0 _
  have hval : ∀ (j : Nat) t v, Try.f13.params[j]? = some t → args[j]? = some v → Value.okWide Try.prog W .any base t v := hval0
  have hW' := hW
  obtain ⟨p, q, hA0, hV, rfl, hfz, hnd⟩ := hW
  have hA : DataW.TrodAll enc Try.prog W 0 (fun _ => true) true Try.f13.params.toList args.toList ds p := hA0
  rw [Try.params13] at hA hval
  obtain ⟨v0, vs0, d0, ds0, p0, q0, hargs, rfl, rfl, h0, r0⟩ := trodAll_cons hA
  obtain ⟨v1, vs1, d1, ds1, p1, q1, rfl, rfl, rfl, h1, r1⟩ := trodAll_cons r0
  obtain ⟨v2, vs2, d2, ds2, p2, q2, rfl, rfl, rfl, h2, r2⟩ := trodAll_cons r1
  obtain ⟨rfl, rfl, rfl⟩ := trodAll_nil r2
  obtain rfl : args = #[v0, v1, v2] := by cases args; simp_all
  obtain ⟨rfl, rfl⟩ := trodVars_none hV
  have lt0 : ∀ x ∈ p0, x.block < W.heap.size := fun x hx => by simpa using hW'.lt x (by simp [hx])
  have k0 := h0
  have lt1 : ∀ x ∈ p1, x.block < W.heap.size := fun x hx => by simpa using hW'.lt x (by simp [hx])
  have k1 := h1
  have lt2 : ∀ x ∈ p2, x.block < W.heap.size := fun x hx => by simpa using hW'.lt x (by simp [hx])
  have k2 := h2
  obtain ⟨g0, len0, cap0, e0⟩ := okWide_slice Try.underlying45 (hval 0 45 v0 rfl rfl)
  obtain ⟨A0, c0, l0, rfl, -, V0⟩ := (OpenKd.opn_slice (d := Kd.slice 3 (Kd.int .i64)) 23 Try.underlying45 (by kernel_rfl) (OpenKd.opn_slice (d := Kd.int .i64) 3 Try.underlying23 (by kernel_rfl) (OpenKd.opn_int (enc := enc) (w := W) (base := 0) (spare := fun _ => true) (held := true) Try.underlying3))).V 23 (Kd.heap_slice _ (Kd.heap_int _)) (by rw [e0]; rfl) h0
  obtain ⟨g1, len1, cap1, e1⟩ := okWide_slice Try.underlying23 (hval 1 23 v1 rfl rfl)
  obtain ⟨A1, c1, l1, rfl, -, V1⟩ := (OpenKd.opn_slice (d := Kd.int .i64) 3 Try.underlying23 (by kernel_rfl) (OpenKd.opn_int (enc := enc) (w := W) (base := 0) (spare := fun _ => true) (held := true) Try.underlying3)).V 3 (Kd.heap_int _) (by rw [e1]; rfl) h1
  obtain ⟨a2, rfl, rfl, rfl, w2⟩ := open_int Try.underlying5 (hval 2 5 v2 rfl rfl) h2
  have hb2 : 0 ≤ a2 ∧ a2 ≤ 255 := by have h_ := w2; simp only [Go.Lit.wf] at h_; rw [Bool.and_eq_true, decide_eq_true_eq, decide_eq_true_eq] at h_; exact ⟨h_.1, h_.2⟩
  refine (streams24_calls A0 c0 l0 A1 c1 l1 a2 hb2.1 hb2.2 W V0 V1).mono fun e W' ⟨he, bel⟩ => ?_
  subst he
  exact ⟨_, rfl, _, _, _, [], _, [], hW', trodAll_mk1 (shut_bool Try.underlying4 _), (trodAll_cons_mk (Below.trod laid (by kernel_rfl) (of_decide_eq_true (by kernel_rfl)) k0 bel lt0) (trodAll_cons_mk (Below.trod laid (by kernel_rfl) (of_decide_eq_true (by kernel_rfl)) k1 bel lt1) (trodAll_cons_mk (Below.trod laid (by kernel_rfl) (of_decide_eq_true (by kernel_rfl)) k2 bel lt2) trodAll_mk0))), rfl, bel.frame _, fun h => by cases h⟩
theorem over : Rows.matchStreamsRow.holds Try.pinned (OpenSpec.ofChange Rows.matchStreamsSpec) :=
  OpenClaim.holds_of_wide 13 Try.f13 rfl rfl rfl rfl rfl rfl rfl ⟨rfl, rfl, rfl, rfl, rfl⟩ rfl rfl rfl rfl rfl (by kernel_rfl) Try.func13 (by kernel_rfl)
    (of_decide_eq_true (by kernel_rfl)) (by unfold Func.isWrapper; first | (rw [if_pos (by decide +kernel)]; kernel_rfl) | (rw [if_neg (by decide +kernel)]; exact ⟨rfl, rfl⟩))
    (fun os started H enc _ => lifted os started H enc)
theorem proved : Rows.MatchStreamsSaid := over
#print axioms proved
end Go.Proofs.Ytgfmplhpoblleaa.matchStreams
namespace Go.Proofs.Ytgfmplhpoblleaa
/-- The row, under a short name, for the claim. -/
theorem matchStreams_holds : Rows.MatchStreamsSaid := matchStreams.proved
end Go.Proofs.Ytgfmplhpoblleaa
