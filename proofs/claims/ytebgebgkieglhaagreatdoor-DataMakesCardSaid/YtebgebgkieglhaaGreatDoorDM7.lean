/- PUx2, PUx, UniD, UniE, UniF, UniG. -/
import Derived.Test.YtebgebgkieglhaaGreatDoorDM5
import Derived.Test.YtebgebgkieglhaaGreatDoorDM6
import Derived.BigQuiet
import Derived.Deep.QuietTactic
import Derived.BigRegion
import Derived.Deep.AppendLies
import Derived.Deep.RegionHeld3
section
-- printed by the kit's print.py over several roots (printroots.sh): no hand has typed this
namespace Go.Proofs.YtebgebgkieglhaaGreatDoor.PU
open Go.RowKit Go.Proofs.YtebgebgkieglhaaGreatDoorW.PrintWords Go.Proofs.YtebgebgkieglhaaGreatDoorW.PrintLast Go.Proofs.YtebgebgkieglhaaGreatDoorW.PrintMore Go.Proofs.YtebgebgkieglhaaGreatDoor.PlugU
attribute [local go_sem] max2_int min2_int max_two min_two max_three min_three max_four min_four   -- for this text's walks alone
set_option linter.unusedVariables false
set_option linter.unusedSimpArgs false

/-! ### confus_line: function 81 -/
def confus_line.j0 : Nat → Int → Int → List Int → Bool → Option (Int × List Int × Int)
  | 0, _, _, _, _ => none
  | k + 1, x5, x6, x7, x28 => if x28 = true then (some (x5, x7, 16)) else (if (x7.length : Int) > 18 then (some (x5, x7, 36)) else (some (x5, x7, x6)))
def confus_line.f (k : Nat) (l0 : List ByteArray) : Option (Int × List Int × Int) := if (l0.length : Int) = 3 then (if 0 < (l0.length : Int) then ((field_Point.f (rdOf ByteArray.empty l0 0)).bind fun bt145 => (if bt145.2 = 0 then (if 1 < (l0.length : Int) then ((field_Sequence.f (rdOf ByteArray.empty l0 1)).bind fun bt148 => (if bt148.2 = 0 then (confus_line.j0 k bt145.1 bt148.2 bt148.1 ((bt148.1.length : Int) == 0)) else (confus_line.j0 k bt145.1 bt148.2 bt148.1 false))) else (none)) else (some (0, ([] : List Int), bt145.2)))) else (none)) else (some (0, ([] : List Int), 12))
theorem confus_line.mono_l : ∀ k, (∀ y0 y1 y2 y3, LeO (confus_line.j0 k y0 y1 y2 y3) (confus_line.j0 (k + 1) y0 y1 y2 y3))
  | 0 => fun _ _ _ _ r h => by simp [confus_line.j0] at h
  | k + 1 => by
    have ih0 := confus_line.mono_l k
    · intro y0 y1 y2 y3
      unfold confus_line.j0
      repeat' first
      | (with_reducible exact ih0 _ _ _ _)
      | (with_reducible exact LeO.refl _)
      | (with_reducible exact LeO.none _)
      | (with_reducible refine LeO.ite ?_ ?_)
      | (with_reducible refine LeO.bind ?_ (fun _ => ?_))
      | exact ih0 _ _ _ _
      | exact LeO.none _
      | refine LeO.ite ?_ ?_
      | refine LeO.bind ?_ (fun _ => ?_)
theorem confus_line.mono : ∀ a0 k, LeO (confus_line.f k a0) (confus_line.f (k + 1) a0) := by
  intro a0 k
  have ih0 := confus_line.mono_l k
  unfold confus_line.f
  repeat' first
      | (with_reducible exact ih0 _ _ _ _)
      | (with_reducible exact LeO.refl _)
      | (with_reducible exact LeO.none _)
      | (with_reducible refine LeO.ite ?_ ?_)
      | (with_reducible refine LeO.bind ?_ (fun _ => ?_))
      | exact ih0 _ _ _ _
      | exact LeO.none _
      | refine LeO.ite ?_ ?_
      | refine LeO.bind ?_ (fun _ => ?_)
set_option maxHeartbeats 8000000 in
set_option maxRecDepth 100000 in
theorem confus_line.calls (k : Nat) (A0 : Option Addr) (c0 : Nat) (l0 : List ByteArray) (r1 : Int) (r2 : List Int) (r3 : Int) (w : World) (hr0 : Kd.C Kd.string w A0 l0.length l0) (hc0 : l0.length ≤ c0) (h : confus_line.f k l0 = some (r1, r2, r3)) (T : Go.Proofs.YtebgebgkieglhaaGreatDoor.FieldW.Tabs w) :
    Calls Tryz.prog 81 #[.slice A0 l0.length c0] w fun e w' => ∃ v1_ : Value, e = .returned (.tuple #[.int .i64 r1, v1_, .int .i64 r3]) ∧ Kd.R (Kd.int .i64) 3 w' w.heap.size (fun _ => True) v1_ r2 ∧ Below w.heap.size w w' := by
  have HT := Aside0.mk T
  clear T
  have HR0 := Aside0.mk hr0
  have HC0 := Aside0.mk hc0
  clear hr0 hc0
  have HB := Aside0.mk (Below.refl w.heap.size w)
  have H : (if (l0.length : Int) = 3 then (if 0 < (l0.length : Int) then ((field_Point.f (rdOf ByteArray.empty l0 0)).bind fun bt145 => (if bt145.2 = 0 then (if 1 < (l0.length : Int) then ((field_Sequence.f (rdOf ByteArray.empty l0 1)).bind fun bt148 => (if bt148.2 = 0 then (confus_line.j0 k bt145.1 bt148.2 bt148.1 ((bt148.1.length : Int) == 0)) else (confus_line.j0 k bt145.1 bt148.2 bt148.1 false))) else (none)) else (some (0, ([] : List Int), bt145.2)))) else (none)) else (some (0, ([] : List Int), 12))) = some (r1, r2, r3) := h
  clear h
  by_cases c2 : (l0.length : Int) = 3
  · rw [if_pos c2] at H
    have c2b0 : ((l0.length : Int) == 3) = true := beq_iff_eq.mpr c2
    have c2b1 : ((l0.length : Int) != 3) = false := bne_eq_false_iff_eq.mpr c2
    clear c2
    by_cases c3 : 0 < (l0.length : Int)
    · rw [if_pos c3] at H
      have c3b0 : decide (0 < (l0.length : Int)) = true := decide_eq_true c3
      have c3b1 : decide (0 < l0.length) = true := decide_eq_true (by omega)
      clear c3
      replace H := Option.bind_eq_some_iff.mp H
      obtain ⟨⟨t145, t146⟩, A40, H⟩ := H
      replace H : (if t146 = 0 then (if 1 < (l0.length : Int) then ((field_Sequence.f (rdOf ByteArray.empty l0 1)).bind fun bt148 => (if bt148.2 = 0 then (confus_line.j0 k t145 bt148.2 bt148.1 ((bt148.1.length : Int) == 0)) else (confus_line.j0 k t145 bt148.2 bt148.1 false))) else (none)) else (some (0, ([] : List Int), t146))) = some (r1, r2, r3) := H
      have A4 := Aside0.mk A40
      clear A40
      by_cases c5 : t146 = 0
      · rw [if_pos c5] at H
        have c5b0 : (t146 == 0) = true := beq_iff_eq.mpr c5
        have c5b1 : (t146 != 0) = false := bne_eq_false_iff_eq.mpr c5
        clear c5
        by_cases c6 : 1 < (l0.length : Int)
        · rw [if_pos c6] at H
          have c6b0 : decide (1 < (l0.length : Int)) = true := decide_eq_true c6
          have c6b1 : decide (1 < l0.length) = true := decide_eq_true (by omega)
          clear c6
          replace H := Option.bind_eq_some_iff.mp H
          obtain ⟨⟨t148, t151⟩, A70, H⟩ := H
          replace H : (if t151 = 0 then (confus_line.j0 k t145 t151 t148 ((t148.length : Int) == 0)) else (confus_line.j0 k t145 t151 t148 false)) = some (r1, r2, r3) := H
          have A7 := Aside0.mk A70
          clear A70
          have HC8 := Aside0.mk H
          clear H
          have p144 : 0 ≤ (0 : Int) := (by omega)
          have q144 : 0 < (l0.length : Int) := of_decide_eq_true (by first | (with_reducible assumption) | assumption)
          obtain ⟨ad144, e144, hx144_0⟩ := Kd.at_string HR0.out 0 p144 q144
          cases e144
          have qi144 : (0 < l0.length) = True := eq_true (by omega)
          (try rw [show ((0 : Int)).toNat = 0 from rfl] at hx144_0)
          (try rw [Addr.add_zero'] at hx144_0)
          replace p144 := eq_true p144
          replace q144 := eq_true q144
          go_enter Tryz.func81, Tryz.ntmps81
          go_upto_region 7 with (first | ((with_reducible refine gate_callee (f := 104) rfl ?_); refine goesL_ (some 15) rfl rfl Tryz.func104 (by kernel_rfl) rfl #[.string (rdOf ByteArray.empty l0 0)] rfl (by (try simp only [List.map_toArray, List.map_cons, List.map_nil]); first | done | rfl | (simp only [List.length_drop, List.length_take]; rfl)) ?_; (with_reducible refine (field_Point.calls (rdOf ByteArray.empty l0 0) t145 t146 _ A4.out (by exact HT.out.below (by repeat (first | (with_reducible first | exact HB.out | apply below_alloc | apply pw_below_drewN | apply below_drew1) | exact HB.out)))).mono ?_); rintro e w9 ⟨rfl, hb⟩; refine ⟨_, rfl, ?_⟩; have n0_ := Aside0.mk (below_step (by repeat (first | (with_reducible first | exact HB.out | apply below_alloc | apply pw_below_drewN | apply below_drew1) | exact HB.out)) hb); clear HB; have HB := n0_; clear n0_; (try clear hb); (try clear hb2); (try clear hk); (try clear hi); have p147 : 0 ≤ (1 : Int) := (by omega); have q147 : 1 < (l0.length : Int) := of_decide_eq_true (by first | (with_reducible assumption) | assumption); obtain ⟨ad147, e147, hx147_0⟩ := Kd.at_string HR0.out 1 p147 q147; obtain rfl : ad144 = ad147 := (by injection e147); (try simp only [show (1 : Int).toNat = 1 from rfl, Nat.reduceMul, Nat.reduceEqDiff, Go.Addr.add, ↓reduceIte] at hx147_0); have qi147 : (1 < l0.length) = True := eq_true (by omega); (try rw [show ((1 : Int)).toNat = 1 from rfl] at hx147_0); replace hx147_0 := (HB.out.cell (World.block_lt_of_cell? w _ hx147_0)).trans hx147_0; replace p147 := eq_true p147; replace q147 := eq_true q147) | ((with_reducible refine gate_callee (f := 105) rfl ?_); refine goesL_ (some 25) rfl rfl Tryz.func105 (by kernel_rfl) rfl #[.string (rdOf ByteArray.empty l0 1)] rfl (by (try simp only [List.map_toArray, List.map_cons, List.map_nil]); first | done | rfl | (simp only [List.length_drop, List.length_take]; rfl)) ?_; (with_reducible refine (field_Sequence.calls (rdOf ByteArray.empty l0 1) t148 t151 _ A7.out (by exact HT.out.below (by repeat (first | (with_reducible first | exact HB.out | apply below_alloc | apply pw_below_drewN | apply below_drew1) | exact HB.out)))).mono ?_); rintro e w10 ⟨v149, rfl, ho0, hb⟩; refine ⟨_, rfl, ?_⟩; have n0_ := Aside0.mk (Kd.R_lower (Kd.R_mono (ok' := fun k_ => True) ho0 (fun _ hk_ => trivial)) (below_size (by repeat (first | (with_reducible first | exact HB.out | apply below_alloc | apply pw_below_drewN | apply below_drew1) | exact HB.out)))); have n1_ := Aside0.mk (below_step (by repeat (first | (with_reducible first | exact HB.out | apply below_alloc | apply pw_below_drewN | apply below_drew1) | exact HB.out)) hb); clear HB; have HO150 := n0_; have HB := n1_; clear n0_ n1_; (try clear hb); (try clear hb2); (try clear hk); (try clear hi); (try clear ho0)))
          (try simp only [Act.put, List.setIfInBounds_toArray, List.set_cons_zero, List.set_cons_succ])
          go_cut [28] (fun v28 wc => ∃ (kq : Nat) (x28_7 : Bool), v28 = .bool x28_7 ∧ Aside0 (confus_line.j0 kq t145 t151 t148 x28_7 = some (r1, r2, r3)) ∧ Aside0 (kq ≤ k) ∧ Aside0 (Kd.R (Kd.int .i64) 3 wc w.heap.size (fun _ => True) v149 t148) ∧ Aside0 (Below w.heap.size w wc))
          case first =>
            have H := HC8.out
            clear HC8
            by_cases c11 : t151 = 0
            · rw [if_pos c11] at H
              have c11b0 : (t151 == 0) = true := beq_iff_eq.mpr c11
              have c11b1 : (t151 != 0) = false := bne_eq_false_iff_eq.mpr c11
              clear c11
              (first | rw [c11b0] | (simp only [i64_w, i32_w]; rw [c11b0]) | skip)
              have H' := Aside0.mk H
              clear H
              obtain ⟨Ao12, co12, eo12⟩ := Kd.R_slice HO150.out
              subst eo12
              go_wp2
              go_meet
              case rel => exact ⟨_, (((t148.length : Int) == 0)), (by first | rfl | (simp; done) | (simp [*]; done)), H', ⟨by first | omega | exact Nat.le_refl _⟩, ⟨by (with_reducible repeat (first | apply Kd.R_alloc | apply Kd.R_drewN | apply Kd.R_drew)); exact HO150.out⟩, ⟨by repeat (first | (with_reducible first | exact HB.out | apply below_alloc | apply pw_below_drewN | apply below_drew1) | exact HB.out)⟩⟩
            · rw [if_neg c11] at H
              have c11b0 : (t151 == 0) = false := beq_eq_false_iff_ne.mpr c11
              have c11b1 : (t151 != 0) = true := bne_iff_ne.mpr c11
              (first | rw [c11b0] | (simp only [i64_w, i32_w]; rw [c11b0]) | skip)
              have H' := Aside0.mk H
              clear H
              go_wp2
              go_meet
              case rel => exact ⟨_, (false), (by first | rfl | (simp; done) | (simp [*]; done)), H', ⟨by first | omega | exact Nat.le_refl _⟩, ⟨by (with_reducible repeat (first | apply Kd.R_alloc | apply Kd.R_drewN | apply Kd.R_drew)); exact HO150.out⟩, ⟨by repeat (first | (with_reducible first | exact HB.out | apply below_alloc | apply pw_below_drewN | apply below_drew1) | exact HB.out)⟩⟩
          case rest =>
            clear HC8
            try clear c1
            try clear p1
            try clear q1
            try clear hx1
            try clear qi1
            try clear c2
            try clear c2b0
            try clear c2b1
            try clear p2
            try clear c3
            try clear c3b0
            try clear c3b1
            try clear c5
            try clear c5b0
            try clear c5b1
            try clear c6
            try clear c6b0
            try clear c6b1
            try clear c8
            try clear c10
            try clear c11
            try clear c11b0
            try clear c11b1
            try clear hx144_0
            try clear hx147_0
            try clear p144
            try clear p147
            try clear q144
            try clear q147
            obtain ⟨kq, x28_7, rfl, HA, HJ7, HO_7, HB⟩ := hcut
            cases kq with
            | zero => exact absurd HA.out (by simp [confus_line.j0])
            | succ kj7 =>
              have H := HA.out
              clear HA
              simp only [confus_line.j0] at H
              by_cases c13 : x28_7 = true
              · subst c13
                have H1 : (some (t145, t148, 16)) = some (r1, r2, r3) := by rw [if_pos rfl] at H; exact H
                clear H
                have H := H1
                clear H1
                simp only [Option.some.injEq, Prod.mk.injEq] at H
                obtain ⟨rfl, rfl, rfl⟩ := H
                go_wp2
                go_ret3
                exact ⟨_, by first | rfl | (simp [errW_none, errW_some] <;> rfl) | (simp [*, errW_none, errW_some] <;> rfl), by (with_reducible repeat (first | apply Kd.R_alloc | apply Kd.R_drewN | apply Kd.R_drew)); exact HO_7.out, by repeat (first | (with_reducible first | exact HB.out | apply below_alloc | apply pw_below_drewN | apply below_drew1) | exact HB.out)⟩
              · replace c13 := Bool.eq_false_iff.mpr c13
                subst c13
                have H1 : (if (t148.length : Int) > 18 then (some (t145, t148, 36)) else (some (t145, t148, t151))) = some (r1, r2, r3) := by rw [if_neg (show ¬ (false = true) by decide)] at H; exact H
                clear H
                have H := H1
                clear H1
                by_cases c14 : (t148.length : Int) > 18
                · rw [if_pos c14] at H
                  have c14b0 : decide (18 < (t148.length : Int)) = true := decide_eq_true c14
                  have c14b1 : decide (18 < t148.length) = true := decide_eq_true (by omega)
                  clear c14
                  simp only [Option.some.injEq, Prod.mk.injEq] at H
                  obtain ⟨rfl, rfl, rfl⟩ := H
                  obtain ⟨Ao15, co15, eo15⟩ := Kd.R_slice HO_7.out
                  subst eo15
                  go_wp2
                  go_ret3
                  exact ⟨_, by first | rfl | (simp [errW_none, errW_some] <;> rfl) | (simp [*, errW_none, errW_some] <;> rfl), by (with_reducible repeat (first | apply Kd.R_alloc | apply Kd.R_drewN | apply Kd.R_drew)); exact HO_7.out, by repeat (first | (with_reducible first | exact HB.out | apply below_alloc | apply pw_below_drewN | apply below_drew1) | exact HB.out)⟩
                · rw [if_neg c14] at H
                  have c14b0 : decide (18 < (t148.length : Int)) = false := decide_eq_false c14
                  have c14b1 : decide (18 < t148.length) = false := decide_eq_false (by omega)
                  clear c14
                  simp only [Option.some.injEq, Prod.mk.injEq] at H
                  obtain ⟨rfl, rfl, rfl⟩ := H
                  obtain ⟨Ao16, co16, eo16⟩ := Kd.R_slice HO_7.out
                  subst eo16
                  go_wp2
                  go_ret3
                  exact ⟨_, by first | rfl | (simp [errW_none, errW_some] <;> rfl) | (simp [*, errW_none, errW_some] <;> rfl), by (with_reducible repeat (first | apply Kd.R_alloc | apply Kd.R_drewN | apply Kd.R_drew)); exact HO_7.out, by repeat (first | (with_reducible first | exact HB.out | apply below_alloc | apply pw_below_drewN | apply below_drew1) | exact HB.out)⟩
        · rw [if_neg c6] at H
          exact absurd H (by simp)
      · rw [if_neg c5] at H
        have c5b0 : (t146 == 0) = false := beq_eq_false_iff_ne.mpr c5
        have c5b1 : (t146 != 0) = true := bne_iff_ne.mpr c5
        simp only [Option.some.injEq, Prod.mk.injEq] at H
        obtain ⟨rfl, rfl, rfl⟩ := H
        have p144 : 0 ≤ (0 : Int) := (by omega)
        have q144 : 0 < (l0.length : Int) := of_decide_eq_true (by first | (with_reducible assumption) | assumption)
        obtain ⟨ad144, e144, hx144_0⟩ := Kd.at_string HR0.out 0 p144 q144
        cases e144
        have qi144 : (0 < l0.length) = True := eq_true (by omega)
        (try rw [show ((0 : Int)).toNat = 0 from rfl] at hx144_0)
        (try rw [Addr.add_zero'] at hx144_0)
        replace p144 := eq_true p144
        replace q144 := eq_true q144
        go_enter Tryz.func81, Tryz.ntmps81
        go_wp2_with (first | ((with_reducible refine gate_callee (f := 104) rfl ?_); refine goesL_ (some 15) rfl rfl Tryz.func104 (by kernel_rfl) rfl #[.string (rdOf ByteArray.empty l0 0)] rfl (by (try simp only [List.map_toArray, List.map_cons, List.map_nil]); first | done | rfl | (simp only [List.length_drop, List.length_take]; rfl)) ?_; (with_reducible refine (field_Point.calls (rdOf ByteArray.empty l0 0) t145 t146 _ A4.out (by exact HT.out.below (by repeat (first | (with_reducible first | exact HB.out | apply below_alloc | apply pw_below_drewN | apply below_drew1) | exact HB.out)))).mono ?_); rintro e w17 ⟨rfl, hb⟩; refine ⟨_, rfl, ?_⟩; have n0_ := Aside0.mk (below_step (by repeat (first | (with_reducible first | exact HB.out | apply below_alloc | apply pw_below_drewN | apply below_drew1) | exact HB.out)) hb); clear HB; have HB := n0_; clear n0_; (try clear hb); (try clear hb2); (try clear hk); (try clear hi)))
        go_ret3
        exact ⟨_, by first | rfl | (simp [errW_none, errW_some] <;> rfl) | (simp [*, errW_none, errW_some] <;> rfl), by first | exact Kd.R_nil _ _ _ _ _ | exact Kd.N_nil _ _ _ _ _ | exact Kd.V_nil _ _ _ _ _ | exact Kd.Q_nil _ _ _ _ _ | exact Kd.S_nil _ _ _ _ _, by repeat (first | (with_reducible first | exact HB.out | apply below_alloc | apply pw_below_drewN | apply below_drew1) | exact HB.out)⟩
    · rw [if_neg c3] at H
      exact absurd H (by simp)
  · rw [if_neg c2] at H
    have c2b0 : ((l0.length : Int) == 3) = false := beq_eq_false_iff_ne.mpr c2
    have c2b1 : ((l0.length : Int) != 3) = true := bne_iff_ne.mpr c2
    simp only [Option.some.injEq, Prod.mk.injEq] at H
    obtain ⟨rfl, rfl, rfl⟩ := H
    go_enter Tryz.func81, Tryz.ntmps81
    go_wp2
    go_ret3
    exact ⟨_, by first | rfl | (simp [errW_none, errW_some] <;> rfl) | (simp [*, errW_none, errW_some] <;> rfl), by first | exact Kd.R_nil _ _ _ _ _ | exact Kd.N_nil _ _ _ _ _ | exact Kd.V_nil _ _ _ _ _ | exact Kd.Q_nil _ _ _ _ _ | exact Kd.S_nil _ _ _ _ _, by repeat (first | (with_reducible first | exact HB.out | apply below_alloc | apply pw_below_drewN | apply below_drew1) | exact HB.out)⟩

/-! ### data_statuses: function 54 -/
def data_statuses.f  : Option (List ByteArray) := some (([(⟨#[80, 86, 65, 76, 73, 68]⟩ : ByteArray), (⟨#[67, 79, 78, 84, 69, 88, 84, 74]⟩ : ByteArray), (⟨#[67, 79, 78, 84, 69, 88, 84, 79]⟩ : ByteArray), (⟨#[68, 73, 83, 65, 76, 76, 79, 87, 69, 68]⟩ : ByteArray), (⟨#[85, 78, 65, 83, 83, 73, 71, 78, 69, 68]⟩ : ByteArray)] : List ByteArray))
set_option maxHeartbeats 8000000 in
set_option maxRecDepth 100000 in
theorem data_statuses.calls  (r : List ByteArray) (w : World) (h : data_statuses.f  = some r) :
    Calls Tryz.prog 54 #[] w fun e w' => ∃ v0_ : Value, e = .returned (v0_) ∧ Kd.R Kd.string 9 w' w.heap.size (fun _ => True) v0_ r ∧ Below w.heap.size w w' := by
  have HB := Aside0.mk (Below.refl w.heap.size w)
  have H : (some (([(⟨#[80, 86, 65, 76, 73, 68]⟩ : ByteArray), (⟨#[67, 79, 78, 84, 69, 88, 84, 74]⟩ : ByteArray), (⟨#[67, 79, 78, 84, 69, 88, 84, 79]⟩ : ByteArray), (⟨#[68, 73, 83, 65, 76, 76, 79, 87, 69, 68]⟩ : ByteArray), (⟨#[85, 78, 65, 83, 83, 73, 71, 78, 69, 68]⟩ : ByteArray)] : List ByteArray))) = some r := h
  clear h
  obtain ⟨y152, hy152⟩ : ∃ y_ : List ByteArray, y_ = (([(⟨#[80, 86, 65, 76, 73, 68]⟩ : ByteArray), (⟨#[67, 79, 78, 84, 69, 88, 84, 74]⟩ : ByteArray), (⟨#[67, 79, 78, 84, 69, 88, 84, 79]⟩ : ByteArray), (⟨#[68, 73, 83, 65, 76, 76, 79, 87, 69, 68]⟩ : ByteArray), (⟨#[85, 78, 65, 83, 83, 73, 71, 78, 69, 68]⟩ : ByteArray)] : List ByteArray)) := ⟨_, rfl⟩
  replace H : (some y152) = some r := by first | (rw [hy152]; with_reducible exact H) | (have H2_ := (Option.bind_some _ _).symm.trans H; rw [hy152]; with_reducible exact H2_) | (have H2_ := (Option.bind_some _ _).symm.trans H; with_reducible exact H2_) | with_reducible exact H | (rw [hy152]; exact H) | exact H
  have Ny152 := Aside0.mk hy152
  clear hy152
  obtain rfl := Option.some.inj H
  go_enter Tryz.func54, Tryz.ntmps54
  go_wp2_with (first | ((with_reducible refine gate_dst (N := 1) rfl ?_); refine Kd.R_lit Kd.string _ 9 ?hg (N := 1) ?hd (xs := ([(⟨#[80, 86, 65, 76, 73, 68]⟩ : ByteArray), (⟨#[67, 79, 78, 84, 69, 88, 84, 74]⟩ : ByteArray), (⟨#[67, 79, 78, 84, 69, 88, 84, 79]⟩ : ByteArray), (⟨#[68, 73, 83, 65, 76, 76, 79, 87, 69, 68]⟩ : ByteArray), (⟨#[85, 78, 65, 83, 83, 73, 71, 78, 69, 68]⟩ : ByteArray)] : List ByteArray)) (inner := [.string (⟨#[80, 86, 65, 76, 73, 68]⟩ : ByteArray), .string (⟨#[67, 79, 78, 84, 69, 88, 84, 74]⟩ : ByteArray), .string (⟨#[67, 79, 78, 84, 69, 88, 84, 79]⟩ : ByteArray), .string (⟨#[68, 73, 83, 65, 76, 76, 79, 87, 69, 68]⟩ : ByteArray), .string (⟨#[85, 78, 65, 83, 83, 73, 71, 78, 69, 68]⟩ : ByteArray)]) (ok := fun _ => True) (okp := fun _ => True) ?hr ?hp (fun _ hk => hk) trivial (Below.refl _ _) (Nat.le_refl _) (by simp) ?_; (case hd => rfl); (case hg => rfl); (case hr => first | (go_simp; done) | (go_simp; rfl)); (case hp => exact (Reps.one (show Kd.M Kd.string _ _ _ (⟨#[80, 86, 65, 76, 73, 68]⟩ : ByteArray) [.string (⟨#[80, 86, 65, 76, 73, 68]⟩ : ByteArray)] from rfl) (Reps.one (show Kd.M Kd.string _ _ _ (⟨#[67, 79, 78, 84, 69, 88, 84, 74]⟩ : ByteArray) [.string (⟨#[67, 79, 78, 84, 69, 88, 84, 74]⟩ : ByteArray)] from rfl) (Reps.one (show Kd.M Kd.string _ _ _ (⟨#[67, 79, 78, 84, 69, 88, 84, 79]⟩ : ByteArray) [.string (⟨#[67, 79, 78, 84, 69, 88, 84, 79]⟩ : ByteArray)] from rfl) (Reps.one (show Kd.M Kd.string _ _ _ (⟨#[68, 73, 83, 65, 76, 76, 79, 87, 69, 68]⟩ : ByteArray) [.string (⟨#[68, 73, 83, 65, 76, 76, 79, 87, 69, 68]⟩ : ByteArray)] from rfl) (Reps.one (show Kd.M Kd.string _ _ _ (⟨#[85, 78, 65, 83, 83, 73, 71, 78, 69, 68]⟩ : ByteArray) [.string (⟨#[85, 78, 65, 83, 83, 73, 71, 78, 69, 68]⟩ : ByteArray)] from rfl) (Reps.none _ _))))))); intro v153 w1 ho2 hb hg_ hnew_; clear hg_ hnew_; (first | rw [← Ny152.out] at ho2 | (simp only [Int.reduceToNat] at ho2; rw [← Ny152.out] at ho2)); have n0_ := Aside0.mk (Kd.R_lower ho2 (below_size (by repeat (first | (with_reducible first | exact HB.out | apply below_alloc | apply pw_below_drewN | apply below_drew1) | exact HB.out)))); have n1_ := Aside0.mk (below_step (by repeat (first | (with_reducible first | exact HB.out | apply below_alloc | apply pw_below_drewN | apply below_drew1) | exact HB.out)) hb); clear HB; have HO154 := n0_; have HB := n1_; clear n0_ n1_; clear hb ho2))
  go_ret
  exact ⟨_, by first | rfl | (simp [errW_none, errW_some] <;> rfl) | (simp [*, errW_none, errW_some] <;> rfl), by (with_reducible repeat (first | apply Kd.R_alloc | apply Kd.R_drewN | apply Kd.R_drew)); exact HO154.out, by repeat (first | (with_reducible first | exact HB.out | apply below_alloc | apply pw_below_drewN | apply below_drew1) | exact HB.out)⟩

/-! ### paronymref07_Korean: function 12 -/
def paronymref07_Korean.f (a0 : Int) : Option (Bool) := if a0 ≥ 4352 then (if a0 ≤ 4370 then (some true) else (if a0 ≥ 4449 then (if a0 ≤ 4469 then (some true) else (if a0 ≥ 4520 then (if a0 ≤ 4546 then (some true) else (if a0 ≥ 44032 then (some (decide (a0 ≤ 55203))) else (some false))) else (if a0 ≥ 44032 then (some (decide (a0 ≤ 55203))) else (some false)))) else (if a0 ≥ 4520 then (if a0 ≤ 4546 then (some true) else (if a0 ≥ 44032 then (some (decide (a0 ≤ 55203))) else (some false))) else (if a0 ≥ 44032 then (some (decide (a0 ≤ 55203))) else (some false))))) else (if a0 ≥ 4449 then (if a0 ≤ 4469 then (some true) else (if a0 ≥ 4520 then (if a0 ≤ 4546 then (some true) else (if a0 ≥ 44032 then (some (decide (a0 ≤ 55203))) else (some false))) else (if a0 ≥ 44032 then (some (decide (a0 ≤ 55203))) else (some false)))) else (if a0 ≥ 4520 then (if a0 ≤ 4546 then (some true) else (if a0 ≥ 44032 then (some (decide (a0 ≤ 55203))) else (some false))) else (if a0 ≥ 44032 then (some (decide (a0 ≤ 55203))) else (some false))))
set_option maxHeartbeats 8000000 in
set_option maxRecDepth 100000 in
theorem paronymref07_Korean.calls (a0 : Int) (r : Bool) (w : World) (h : paronymref07_Korean.f a0 = some r) :
    Calls Tryz.prog 12 #[.int .i64 a0] w fun e w' => e = .returned (.bool r) ∧ Drawn0 w w' := by
  have H : (if a0 ≥ 4352 then (if a0 ≤ 4370 then (some true) else (if a0 ≥ 4449 then (if a0 ≤ 4469 then (some true) else (if a0 ≥ 4520 then (if a0 ≤ 4546 then (some true) else (if a0 ≥ 44032 then (some (decide (a0 ≤ 55203))) else (some false))) else (if a0 ≥ 44032 then (some (decide (a0 ≤ 55203))) else (some false)))) else (if a0 ≥ 4520 then (if a0 ≤ 4546 then (some true) else (if a0 ≥ 44032 then (some (decide (a0 ≤ 55203))) else (some false))) else (if a0 ≥ 44032 then (some (decide (a0 ≤ 55203))) else (some false))))) else (if a0 ≥ 4449 then (if a0 ≤ 4469 then (some true) else (if a0 ≥ 4520 then (if a0 ≤ 4546 then (some true) else (if a0 ≥ 44032 then (some (decide (a0 ≤ 55203))) else (some false))) else (if a0 ≥ 44032 then (some (decide (a0 ≤ 55203))) else (some false)))) else (if a0 ≥ 4520 then (if a0 ≤ 4546 then (some true) else (if a0 ≥ 44032 then (some (decide (a0 ≤ 55203))) else (some false))) else (if a0 ≥ 44032 then (some (decide (a0 ≤ 55203))) else (some false))))) = some r := h
  clear h
  by_cases c2 : a0 ≥ 4352
  · rw [if_pos c2] at H
    have c2b0 : decide (4352 ≤ a0) = true := decide_eq_true c2
    clear c2
    by_cases c3 : a0 ≤ 4370
    · rw [if_pos c3] at H
      have c3b0 : decide (a0 ≤ 4370) = true := decide_eq_true c3
      clear c3
      obtain rfl := Option.some.inj H
      go_enter Tryz.func12, Tryz.ntmps12
      go_wp2
      go_ret
      exact ⟨by first | rfl | (simp; done) | (simp [*]; done), by repeat (first | exact Drawn0.refl _ | apply Drawn0.step)⟩
    · rw [if_neg c3] at H
      have c3b0 : decide (a0 ≤ 4370) = false := decide_eq_false c3
      clear c3
      by_cases c4 : a0 ≥ 4449
      · rw [if_pos c4] at H
        have c4b0 : decide (4449 ≤ a0) = true := decide_eq_true c4
        clear c4
        by_cases c5 : a0 ≤ 4469
        · rw [if_pos c5] at H
          have c5b0 : decide (a0 ≤ 4469) = true := decide_eq_true c5
          clear c5
          obtain rfl := Option.some.inj H
          go_enter Tryz.func12, Tryz.ntmps12
          go_wp2
          go_ret
          exact ⟨by first | rfl | (simp; done) | (simp [*]; done), by repeat (first | exact Drawn0.refl _ | apply Drawn0.step)⟩
        · rw [if_neg c5] at H
          have c5b0 : decide (a0 ≤ 4469) = false := decide_eq_false c5
          clear c5
          by_cases c6 : a0 ≥ 4520
          · rw [if_pos c6] at H
            have c6b0 : decide (4520 ≤ a0) = true := decide_eq_true c6
            clear c6
            by_cases c7 : a0 ≤ 4546
            · rw [if_pos c7] at H
              have c7b0 : decide (a0 ≤ 4546) = true := decide_eq_true c7
              clear c7
              obtain rfl := Option.some.inj H
              go_enter Tryz.func12, Tryz.ntmps12
              go_wp2
              go_ret
              exact ⟨by first | rfl | (simp; done) | (simp [*]; done), by repeat (first | exact Drawn0.refl _ | apply Drawn0.step)⟩
            · rw [if_neg c7] at H
              have c7b0 : decide (a0 ≤ 4546) = false := decide_eq_false c7
              clear c7
              by_cases c8 : a0 ≥ 44032
              · rw [if_pos c8] at H
                have c8b0 : decide (44032 ≤ a0) = true := decide_eq_true c8
                clear c8
                obtain rfl := Option.some.inj H
                go_enter Tryz.func12, Tryz.ntmps12
                go_wp2
                go_ret
                exact ⟨by first | rfl | (simp; done) | (simp [*]; done), by repeat (first | exact Drawn0.refl _ | apply Drawn0.step)⟩
              · rw [if_neg c8] at H
                have c8b0 : decide (44032 ≤ a0) = false := decide_eq_false c8
                clear c8
                obtain rfl := Option.some.inj H
                go_enter Tryz.func12, Tryz.ntmps12
                go_wp2
                go_ret
                exact ⟨by first | rfl | (simp; done) | (simp [*]; done), by repeat (first | exact Drawn0.refl _ | apply Drawn0.step)⟩
          · rw [if_neg c6] at H
            have c6b0 : decide (4520 ≤ a0) = false := decide_eq_false c6
            clear c6
            by_cases c9 : a0 ≥ 44032
            · rw [if_pos c9] at H
              have c9b0 : decide (44032 ≤ a0) = true := decide_eq_true c9
              clear c9
              obtain rfl := Option.some.inj H
              go_enter Tryz.func12, Tryz.ntmps12
              go_wp2
              go_ret
              exact ⟨by first | rfl | (simp; done) | (simp [*]; done), by repeat (first | exact Drawn0.refl _ | apply Drawn0.step)⟩
            · rw [if_neg c9] at H
              have c9b0 : decide (44032 ≤ a0) = false := decide_eq_false c9
              clear c9
              obtain rfl := Option.some.inj H
              go_enter Tryz.func12, Tryz.ntmps12
              go_wp2
              go_ret
              exact ⟨by first | rfl | (simp; done) | (simp [*]; done), by repeat (first | exact Drawn0.refl _ | apply Drawn0.step)⟩
      · rw [if_neg c4] at H
        have c4b0 : decide (4449 ≤ a0) = false := decide_eq_false c4
        clear c4
        by_cases c10 : a0 ≥ 4520
        · rw [if_pos c10] at H
          have c10b0 : decide (4520 ≤ a0) = true := decide_eq_true c10
          clear c10
          by_cases c11 : a0 ≤ 4546
          · rw [if_pos c11] at H
            have c11b0 : decide (a0 ≤ 4546) = true := decide_eq_true c11
            clear c11
            obtain rfl := Option.some.inj H
            go_enter Tryz.func12, Tryz.ntmps12
            go_wp2
            go_ret
            exact ⟨by first | rfl | (simp; done) | (simp [*]; done), by repeat (first | exact Drawn0.refl _ | apply Drawn0.step)⟩
          · rw [if_neg c11] at H
            have c11b0 : decide (a0 ≤ 4546) = false := decide_eq_false c11
            clear c11
            by_cases c12 : a0 ≥ 44032
            · rw [if_pos c12] at H
              have c12b0 : decide (44032 ≤ a0) = true := decide_eq_true c12
              clear c12
              obtain rfl := Option.some.inj H
              go_enter Tryz.func12, Tryz.ntmps12
              go_wp2
              go_ret
              exact ⟨by first | rfl | (simp; done) | (simp [*]; done), by repeat (first | exact Drawn0.refl _ | apply Drawn0.step)⟩
            · rw [if_neg c12] at H
              have c12b0 : decide (44032 ≤ a0) = false := decide_eq_false c12
              clear c12
              obtain rfl := Option.some.inj H
              go_enter Tryz.func12, Tryz.ntmps12
              go_wp2
              go_ret
              exact ⟨by first | rfl | (simp; done) | (simp [*]; done), by repeat (first | exact Drawn0.refl _ | apply Drawn0.step)⟩
        · rw [if_neg c10] at H
          have c10b0 : decide (4520 ≤ a0) = false := decide_eq_false c10
          clear c10
          by_cases c13 : a0 ≥ 44032
          · rw [if_pos c13] at H
            have c13b0 : decide (44032 ≤ a0) = true := decide_eq_true c13
            clear c13
            obtain rfl := Option.some.inj H
            go_enter Tryz.func12, Tryz.ntmps12
            go_wp2
            go_ret
            exact ⟨by first | rfl | (simp; done) | (simp [*]; done), by repeat (first | exact Drawn0.refl _ | apply Drawn0.step)⟩
          · rw [if_neg c13] at H
            have c13b0 : decide (44032 ≤ a0) = false := decide_eq_false c13
            clear c13
            obtain rfl := Option.some.inj H
            go_enter Tryz.func12, Tryz.ntmps12
            go_wp2
            go_ret
            exact ⟨by first | rfl | (simp; done) | (simp [*]; done), by repeat (first | exact Drawn0.refl _ | apply Drawn0.step)⟩
  · rw [if_neg c2] at H
    have c2b0 : decide (4352 ≤ a0) = false := decide_eq_false c2
    clear c2
    by_cases c14 : a0 ≥ 4449
    · rw [if_pos c14] at H
      have c14b0 : decide (4449 ≤ a0) = true := decide_eq_true c14
      clear c14
      by_cases c15 : a0 ≤ 4469
      · rw [if_pos c15] at H
        have c15b0 : decide (a0 ≤ 4469) = true := decide_eq_true c15
        clear c15
        obtain rfl := Option.some.inj H
        go_enter Tryz.func12, Tryz.ntmps12
        go_wp2
        go_ret
        exact ⟨by first | rfl | (simp; done) | (simp [*]; done), by repeat (first | exact Drawn0.refl _ | apply Drawn0.step)⟩
      · rw [if_neg c15] at H
        have c15b0 : decide (a0 ≤ 4469) = false := decide_eq_false c15
        clear c15
        by_cases c16 : a0 ≥ 4520
        · rw [if_pos c16] at H
          have c16b0 : decide (4520 ≤ a0) = true := decide_eq_true c16
          clear c16
          by_cases c17 : a0 ≤ 4546
          · rw [if_pos c17] at H
            have c17b0 : decide (a0 ≤ 4546) = true := decide_eq_true c17
            clear c17
            obtain rfl := Option.some.inj H
            go_enter Tryz.func12, Tryz.ntmps12
            go_wp2
            go_ret
            exact ⟨by first | rfl | (simp; done) | (simp [*]; done), by repeat (first | exact Drawn0.refl _ | apply Drawn0.step)⟩
          · rw [if_neg c17] at H
            have c17b0 : decide (a0 ≤ 4546) = false := decide_eq_false c17
            clear c17
            by_cases c18 : a0 ≥ 44032
            · rw [if_pos c18] at H
              have c18b0 : decide (44032 ≤ a0) = true := decide_eq_true c18
              clear c18
              obtain rfl := Option.some.inj H
              go_enter Tryz.func12, Tryz.ntmps12
              go_wp2
              go_ret
              exact ⟨by first | rfl | (simp; done) | (simp [*]; done), by repeat (first | exact Drawn0.refl _ | apply Drawn0.step)⟩
            · rw [if_neg c18] at H
              have c18b0 : decide (44032 ≤ a0) = false := decide_eq_false c18
              clear c18
              obtain rfl := Option.some.inj H
              go_enter Tryz.func12, Tryz.ntmps12
              go_wp2
              go_ret
              exact ⟨by first | rfl | (simp; done) | (simp [*]; done), by repeat (first | exact Drawn0.refl _ | apply Drawn0.step)⟩
        · rw [if_neg c16] at H
          have c16b0 : decide (4520 ≤ a0) = false := decide_eq_false c16
          clear c16
          by_cases c19 : a0 ≥ 44032
          · rw [if_pos c19] at H
            have c19b0 : decide (44032 ≤ a0) = true := decide_eq_true c19
            clear c19
            obtain rfl := Option.some.inj H
            go_enter Tryz.func12, Tryz.ntmps12
            go_wp2
            go_ret
            exact ⟨by first | rfl | (simp; done) | (simp [*]; done), by repeat (first | exact Drawn0.refl _ | apply Drawn0.step)⟩
          · rw [if_neg c19] at H
            have c19b0 : decide (44032 ≤ a0) = false := decide_eq_false c19
            clear c19
            obtain rfl := Option.some.inj H
            go_enter Tryz.func12, Tryz.ntmps12
            go_wp2
            go_ret
            exact ⟨by first | rfl | (simp; done) | (simp [*]; done), by repeat (first | exact Drawn0.refl _ | apply Drawn0.step)⟩
    · rw [if_neg c14] at H
      have c14b0 : decide (4449 ≤ a0) = false := decide_eq_false c14
      clear c14
      by_cases c20 : a0 ≥ 4520
      · rw [if_pos c20] at H
        have c20b0 : decide (4520 ≤ a0) = true := decide_eq_true c20
        clear c20
        by_cases c21 : a0 ≤ 4546
        · rw [if_pos c21] at H
          have c21b0 : decide (a0 ≤ 4546) = true := decide_eq_true c21
          clear c21
          obtain rfl := Option.some.inj H
          go_enter Tryz.func12, Tryz.ntmps12
          go_wp2
          go_ret
          exact ⟨by first | rfl | (simp; done) | (simp [*]; done), by repeat (first | exact Drawn0.refl _ | apply Drawn0.step)⟩
        · rw [if_neg c21] at H
          have c21b0 : decide (a0 ≤ 4546) = false := decide_eq_false c21
          clear c21
          by_cases c22 : a0 ≥ 44032
          · rw [if_pos c22] at H
            have c22b0 : decide (44032 ≤ a0) = true := decide_eq_true c22
            clear c22
            obtain rfl := Option.some.inj H
            go_enter Tryz.func12, Tryz.ntmps12
            go_wp2
            go_ret
            exact ⟨by first | rfl | (simp; done) | (simp [*]; done), by repeat (first | exact Drawn0.refl _ | apply Drawn0.step)⟩
          · rw [if_neg c22] at H
            have c22b0 : decide (44032 ≤ a0) = false := decide_eq_false c22
            clear c22
            obtain rfl := Option.some.inj H
            go_enter Tryz.func12, Tryz.ntmps12
            go_wp2
            go_ret
            exact ⟨by first | rfl | (simp; done) | (simp [*]; done), by repeat (first | exact Drawn0.refl _ | apply Drawn0.step)⟩
      · rw [if_neg c20] at H
        have c20b0 : decide (4520 ≤ a0) = false := decide_eq_false c20
        clear c20
        by_cases c23 : a0 ≥ 44032
        · rw [if_pos c23] at H
          have c23b0 : decide (44032 ≤ a0) = true := decide_eq_true c23
          clear c23
          obtain rfl := Option.some.inj H
          go_enter Tryz.func12, Tryz.ntmps12
          go_wp2
          go_ret
          exact ⟨by first | rfl | (simp; done) | (simp [*]; done), by repeat (first | exact Drawn0.refl _ | apply Drawn0.step)⟩
        · rw [if_neg c23] at H
          have c23b0 : decide (44032 ≤ a0) = false := decide_eq_false c23
          clear c23
          obtain rfl := Option.some.inj H
          go_enter Tryz.func12, Tryz.ntmps12
          go_wp2
          go_ret
          exact ⟨by first | rfl | (simp; done) | (simp [*]; done), by repeat (first | exact Drawn0.refl _ | apply Drawn0.step)⟩

/-! ### paronymref01_Compare: function 45 -/
mutual
def paronymref01_Compare.l0 : Nat → List Int → List Int → Int → Option (Int)
  | 0, _, _, _ => none
  | k + 1, x0, x1, x5 => if x5 < (x0.length : Int) then (paronymref01_Compare.j1 k x0 x1 x5 (decide (x5 < (x1.length : Int)))) else (paronymref01_Compare.j1 k x0 x1 x5 false)
def paronymref01_Compare.j1 : Nat → List Int → List Int → Int → Bool → Option (Int)
  | 0, _, _, _, _ => none
  | k + 1, x0, x1, x5, x15 => if x15 = true then (if 0 ≤ x5 then (if x5 < (x0.length : Int) then (if x5 < (x1.length : Int) then (if (rd x0 x5) < (rd x1 x5) then (some (-1)) else (if (rd x0 x5) > (rd x1 x5) then (some 1) else (paronymref01_Compare.l0 k x0 x1 (wrap64 (x5 + 1))))) else (none)) else (none)) else (none)) else (if (x0.length : Int) < (x1.length : Int) then (some (-1)) else (if (x0.length : Int) > (x1.length : Int) then (some 1) else (some 0)))
end
def paronymref01_Compare.f (k : Nat) (l0 : List Int) (l1 : List Int) : Option (Int) := paronymref01_Compare.l0 k l0 l1 0
theorem paronymref01_Compare.mono_l : ∀ k, (∀ y0 y1 y2, LeO (paronymref01_Compare.l0 k y0 y1 y2) (paronymref01_Compare.l0 (k + 1) y0 y1 y2)) ∧ (∀ y0 y1 y2 y3, LeO (paronymref01_Compare.j1 k y0 y1 y2 y3) (paronymref01_Compare.j1 (k + 1) y0 y1 y2 y3))
  | 0 => ⟨fun _ _ _ r h => by simp [paronymref01_Compare.l0] at h, fun _ _ _ _ r h => by simp [paronymref01_Compare.j1] at h⟩
  | k + 1 => by
    obtain ⟨ih0, ih1⟩ := paronymref01_Compare.mono_l k
    refine ⟨?_, ?_⟩
    · intro y0 y1 y2
      unfold paronymref01_Compare.l0
      repeat' first
      | (with_reducible exact ih0 _ _ _)
      | (with_reducible exact ih1 _ _ _ _)
      | (with_reducible exact LeO.refl _)
      | (with_reducible exact LeO.none _)
      | (with_reducible refine LeO.ite ?_ ?_)
      | (with_reducible refine LeO.bind ?_ (fun _ => ?_))
      | exact ih0 _ _ _
      | exact ih1 _ _ _ _
      | exact LeO.none _
      | refine LeO.ite ?_ ?_
      | refine LeO.bind ?_ (fun _ => ?_)
    · intro y0 y1 y2 y3
      unfold paronymref01_Compare.j1
      repeat' first
      | (with_reducible exact ih0 _ _ _)
      | (with_reducible exact ih1 _ _ _ _)
      | (with_reducible exact LeO.refl _)
      | (with_reducible exact LeO.none _)
      | (with_reducible refine LeO.ite ?_ ?_)
      | (with_reducible refine LeO.bind ?_ (fun _ => ?_))
      | exact ih0 _ _ _
      | exact ih1 _ _ _ _
      | exact LeO.none _
      | refine LeO.ite ?_ ?_
      | refine LeO.bind ?_ (fun _ => ?_)
theorem paronymref01_Compare.mono : ∀ a0 a1 k, LeO (paronymref01_Compare.f k a0 a1) (paronymref01_Compare.f (k + 1) a0 a1) := by
  intro a0 a1 k
  obtain ⟨ih0, ih1⟩ := paronymref01_Compare.mono_l k
  unfold paronymref01_Compare.f
  repeat' first
      | (with_reducible exact ih0 _ _ _)
      | (with_reducible exact ih1 _ _ _ _)
      | (with_reducible exact LeO.refl _)
      | (with_reducible exact LeO.none _)
      | (with_reducible refine LeO.ite ?_ ?_)
      | (with_reducible refine LeO.bind ?_ (fun _ => ?_))
      | exact ih0 _ _ _
      | exact ih1 _ _ _ _
      | exact LeO.none _
      | refine LeO.ite ?_ ?_
      | refine LeO.bind ?_ (fun _ => ?_)
set_option maxHeartbeats 8000000 in
set_option maxRecDepth 100000 in
theorem paronymref01_Compare.calls (k : Nat) (A0 : Option Addr) (c0 : Nat) (l0 : List Int) (A1 : Option Addr) (c1 : Nat) (l1 : List Int) (r : Int) (w : World) (hr0 : Kd.C (Kd.int .i64) w A0 l0.length l0) (hc0 : l0.length ≤ c0) (hr1 : Kd.C (Kd.int .i64) w A1 l1.length l1) (hc1 : l1.length ≤ c1) (h : paronymref01_Compare.f k l0 l1 = some r) :
    Calls Tryz.prog 45 #[.slice A0 l0.length c0, .slice A1 l1.length c1] w fun e w' => e = .returned (.int .i64 r) ∧ Drawn0 w w' := by
  have HR0 := Aside0.mk hr0
  have HC0 := Aside0.mk hc0
  clear hr0 hc0
  have HR1 := Aside0.mk hr1
  have HC1 := Aside0.mk hc1
  clear hr1 hc1
  have H : (paronymref01_Compare.l0 k l0 l1 0) = some r := h
  clear h
  have H' := Aside0.mk H
  clear H
  go_enter Tryz.func45, Tryz.ntmps45
  go_wp2
  repeat (go_quiet (fail); try go_wp2)
  go_loopg [5] k (fun kq v5 w' => ∃ (x5_1 : Int), v5 = .int .i64 x5_1 ∧ Aside0 (paronymref01_Compare.l0 kq l0 l1 x5_1 = some r) ∧ Aside0 (kq ≤ k) ∧ Drawn0 w w')
  case atStart => exact ⟨(0), (by first | rfl | (simp; done) | (simp [*]; done)), H', ⟨Nat.le_refl _⟩, by repeat (first | exact Drawn0.refl _ | apply Drawn0.step)⟩
  case round =>
    clear H'
    try clear c1
    try clear p2
    obtain ⟨x5_1, rfl, HA, HK1, ⟨m1, rfl⟩⟩ := hrel
    cases gk with
    | zero => exact absurd HA.out (by simp [paronymref01_Compare.l0])
    | succ k1 =>
      have H := HA.out
      clear HA
      simp only [paronymref01_Compare.l0] at H
      have HC3 := Aside0.mk H
      clear H
      go_upto_region 2 with (fail)
      repeat (go_quiet (fail); go_upto_region 2 with (fail))
      go_cut [15] (fun v15 wc => ∃ (kq : Nat) (x15_2 : Bool), v15 = .bool x15_2 ∧ Aside0 (paronymref01_Compare.j1 kq l0 l1 x5_1 x15_2 = some r) ∧ Aside0 (kq ≤ k1) ∧ Drawn0 w wc)
      case first =>
        have H := HC3.out
        clear HC3
        by_cases c4 : x5_1 < (l0.length : Int)
        · rw [if_pos c4] at H
          have c4b0 : decide (x5_1 < (l0.length : Int)) = true := decide_eq_true c4
          clear c4
          (first | rw [c4b0] | (simp only [i64_w, i32_w]; rw [c4b0]) | skip)
          have H' := Aside0.mk H
          clear H
          go_wp2
          repeat (go_quiet (fail); try go_wp2)
          go_meet
          case rel => exact ⟨_, (decide (x5_1 < (l1.length : Int))), (by first | rfl | (simp; done) | (simp [*]; done)), H', ⟨by have := HK1.out; first | omega | exact Nat.le_refl _⟩, by repeat (first | exact Drawn0.refl _ | apply Drawn0.step)⟩
        · rw [if_neg c4] at H
          have c4b0 : decide (x5_1 < (l0.length : Int)) = false := decide_eq_false c4
          clear c4
          (first | rw [c4b0] | (simp only [i64_w, i32_w]; rw [c4b0]) | skip)
          have H' := Aside0.mk H
          clear H
          go_wp2
          repeat (go_quiet (fail); try go_wp2)
          go_meet
          case rel => exact ⟨_, (false), (by first | rfl | (simp; done) | (simp [*]; done)), H', ⟨by have := HK1.out; first | omega | exact Nat.le_refl _⟩, by repeat (first | exact Drawn0.refl _ | apply Drawn0.step)⟩
      case rest =>
        clear HC3
        try clear c1
        try clear p2
        try clear c4
        try clear c4b0
        try clear p2
        obtain ⟨kq, x15_2, rfl, HA, HJ2, ⟨mc2, rfl⟩⟩ := hcut
        cases kq with
        | zero => exact absurd HA.out (by simp [paronymref01_Compare.j1])
        | succ kj2 =>
          have H := HA.out
          clear HA
          simp only [paronymref01_Compare.j1] at H
          by_cases c5 : x15_2 = true
          · subst c5
            have H1 : (if 0 ≤ x5_1 then (if x5_1 < (l0.length : Int) then (if x5_1 < (l1.length : Int) then (if (rd l0 x5_1) < (rd l1 x5_1) then (some (-1)) else (if (rd l0 x5_1) > (rd l1 x5_1) then (some 1) else (paronymref01_Compare.l0 kj2 l0 l1 (wrap64 (x5_1 + 1))))) else (none)) else (none)) else (none)) = some r := by rw [if_pos rfl] at H; exact H
            clear H
            have H := H1
            clear H1
            by_cases c6 : 0 ≤ x5_1
            · rw [if_pos c6] at H
              have c6b0 : decide (0 ≤ x5_1) = true := decide_eq_true c6
              clear c6
              by_cases c7 : x5_1 < (l0.length : Int)
              · rw [if_pos c7] at H
                have c7b0 : decide (x5_1 < (l0.length : Int)) = true := decide_eq_true c7
                clear c7
                by_cases c8 : x5_1 < (l1.length : Int)
                · rw [if_pos c8] at H
                  have c8b0 : decide (x5_1 < (l1.length : Int)) = true := decide_eq_true c8
                  clear c8
                  by_cases c9 : (rd l0 x5_1) < (rd l1 x5_1)
                  · rw [if_pos c9] at H
                    have c9b0 : decide ((rd l0 x5_1) < (rd l1 x5_1)) = true := decide_eq_true c9
                    clear c9
                    obtain rfl := Option.some.inj H
                    have p155 : 0 ≤ (x5_1 : Int) := of_decide_eq_true (by first | (with_reducible assumption) | assumption)
                    have q155 : x5_1 < (l0.length : Int) := of_decide_eq_true (by first | (with_reducible assumption) | assumption)
                    obtain ⟨ad155, e155, hx155_0⟩ := Kd.at_int HR0.out x5_1 p155 q155
                    cases e155
                    replace p155 := eq_true p155
                    replace q155 := eq_true q155
                    have p156 : 0 ≤ (x5_1 : Int) := of_decide_eq_true (by first | (with_reducible assumption) | assumption)
                    have q156 : x5_1 < (l1.length : Int) := of_decide_eq_true (by first | (with_reducible assumption) | assumption)
                    obtain ⟨ad156, e156, hx156_0⟩ := Kd.at_int HR1.out x5_1 p156 q156
                    cases e156
                    replace p156 := eq_true p156
                    replace q156 := eq_true q156
                    go_wp2
                    repeat (go_quiet (fail); try go_wp2)
                    go_ret
                    exact ⟨by first | rfl | (simp; done) | (simp [*]; done), by repeat (first | exact Drawn0.refl _ | apply Drawn0.step)⟩
                  · rw [if_neg c9] at H
                    have c9b0 : decide ((rd l0 x5_1) < (rd l1 x5_1)) = false := decide_eq_false c9
                    clear c9
                    by_cases c10 : (rd l0 x5_1) > (rd l1 x5_1)
                    · rw [if_pos c10] at H
                      have c10b0 : decide ((rd l1 x5_1) < (rd l0 x5_1)) = true := decide_eq_true c10
                      clear c10
                      obtain rfl := Option.some.inj H
                      have p155 : 0 ≤ (x5_1 : Int) := of_decide_eq_true (by first | (with_reducible assumption) | assumption)
                      have q155 : x5_1 < (l0.length : Int) := of_decide_eq_true (by first | (with_reducible assumption) | assumption)
                      obtain ⟨ad155, e155, hx155_0⟩ := Kd.at_int HR0.out x5_1 p155 q155
                      cases e155
                      replace p155 := eq_true p155
                      replace q155 := eq_true q155
                      have p156 : 0 ≤ (x5_1 : Int) := of_decide_eq_true (by first | (with_reducible assumption) | assumption)
                      have q156 : x5_1 < (l1.length : Int) := of_decide_eq_true (by first | (with_reducible assumption) | assumption)
                      obtain ⟨ad156, e156, hx156_0⟩ := Kd.at_int HR1.out x5_1 p156 q156
                      cases e156
                      replace p156 := eq_true p156
                      replace q156 := eq_true q156
                      have p157 : 0 ≤ (x5_1 : Int) := of_decide_eq_true (by first | (with_reducible assumption) | assumption)
                      have q157 : x5_1 < (l0.length : Int) := of_decide_eq_true (by first | (with_reducible assumption) | assumption)
                      obtain ⟨ad157, e157, hx157_0⟩ := Kd.at_int HR0.out x5_1 p157 q157
                      obtain rfl : ad155 = ad157 := (by injection e157)
                      replace p157 := eq_true p157
                      replace q157 := eq_true q157
                      have p158 : 0 ≤ (x5_1 : Int) := of_decide_eq_true (by first | (with_reducible assumption) | assumption)
                      have q158 : x5_1 < (l1.length : Int) := of_decide_eq_true (by first | (with_reducible assumption) | assumption)
                      obtain ⟨ad158, e158, hx158_0⟩ := Kd.at_int HR1.out x5_1 p158 q158
                      obtain rfl : ad156 = ad158 := (by injection e158)
                      replace p158 := eq_true p158
                      replace q158 := eq_true q158
                      go_wp2
                      repeat (go_quiet (fail); try go_wp2)
                      go_ret
                      exact ⟨by first | rfl | (simp; done) | (simp [*]; done), by repeat (first | exact Drawn0.refl _ | apply Drawn0.step)⟩
                    · rw [if_neg c10] at H
                      have c10b0 : decide ((rd l1 x5_1) < (rd l0 x5_1)) = false := decide_eq_false c10
                      clear c10
                      have H' := Aside0.mk H
                      clear H
                      have p155 : 0 ≤ (x5_1 : Int) := of_decide_eq_true (by first | (with_reducible assumption) | assumption)
                      have q155 : x5_1 < (l0.length : Int) := of_decide_eq_true (by first | (with_reducible assumption) | assumption)
                      obtain ⟨ad155, e155, hx155_0⟩ := Kd.at_int HR0.out x5_1 p155 q155
                      cases e155
                      replace p155 := eq_true p155
                      replace q155 := eq_true q155
                      have p156 : 0 ≤ (x5_1 : Int) := of_decide_eq_true (by first | (with_reducible assumption) | assumption)
                      have q156 : x5_1 < (l1.length : Int) := of_decide_eq_true (by first | (with_reducible assumption) | assumption)
                      obtain ⟨ad156, e156, hx156_0⟩ := Kd.at_int HR1.out x5_1 p156 q156
                      cases e156
                      replace p156 := eq_true p156
                      replace q156 := eq_true q156
                      have p157 : 0 ≤ (x5_1 : Int) := of_decide_eq_true (by first | (with_reducible assumption) | assumption)
                      have q157 : x5_1 < (l0.length : Int) := of_decide_eq_true (by first | (with_reducible assumption) | assumption)
                      obtain ⟨ad157, e157, hx157_0⟩ := Kd.at_int HR0.out x5_1 p157 q157
                      obtain rfl : ad155 = ad157 := (by injection e157)
                      replace p157 := eq_true p157
                      replace q157 := eq_true q157
                      have p158 : 0 ≤ (x5_1 : Int) := of_decide_eq_true (by first | (with_reducible assumption) | assumption)
                      have q158 : x5_1 < (l1.length : Int) := of_decide_eq_true (by first | (with_reducible assumption) | assumption)
                      obtain ⟨ad158, e158, hx158_0⟩ := Kd.at_int HR1.out x5_1 p158 q158
                      obtain rfl : ad156 = ad158 := (by injection e158)
                      replace p158 := eq_true p158
                      replace q158 := eq_true q158
                      go_wp2
                      repeat (go_quiet (fail); try go_wp2)
                      go_roundg kj2
                      case measure => have := HK1.out; have := HJ2.out; omega
                      case rel => exact ⟨(wrap64 (x5_1 + 1)), (by first | rfl | (simp; done) | (simp [*]; done)), H', ⟨by have := HK1.out; have := HJ2.out; omega⟩, by repeat (first | exact Drawn0.refl _ | apply Drawn0.step)⟩
                · rw [if_neg c8] at H
                  exact absurd H (by simp)
              · rw [if_neg c7] at H
                exact absurd H (by simp)
            · rw [if_neg c6] at H
              exact absurd H (by simp)
          · replace c5 := Bool.eq_false_iff.mpr c5
            subst c5
            have H1 : (if (l0.length : Int) < (l1.length : Int) then (some (-1)) else (if (l0.length : Int) > (l1.length : Int) then (some 1) else (some 0))) = some r := by rw [if_neg (show ¬ (false = true) by decide)] at H; exact H
            clear H
            have H := H1
            clear H1
            by_cases c11 : (l0.length : Int) < (l1.length : Int)
            · rw [if_pos c11] at H
              have c11b0 : decide ((l0.length : Int) < (l1.length : Int)) = true := decide_eq_true c11
              have c11b1 : decide (l0.length < l1.length) = true := decide_eq_true (Int.ofNat_lt.mp c11)
              clear c11
              obtain rfl := Option.some.inj H
              go_wp2
              repeat (go_quiet (fail); try go_wp2)
              go_ret
              exact ⟨by first | rfl | (simp; done) | (simp [*]; done), by repeat (first | exact Drawn0.refl _ | apply Drawn0.step)⟩
            · rw [if_neg c11] at H
              have c11b0 : decide ((l0.length : Int) < (l1.length : Int)) = false := decide_eq_false c11
              have c11b1 : decide (l0.length < l1.length) = false := decide_eq_false (fun h => c11 (Int.ofNat_lt.mpr h))
              clear c11
              by_cases c12 : (l0.length : Int) > (l1.length : Int)
              · rw [if_pos c12] at H
                have c12b0 : decide ((l1.length : Int) < (l0.length : Int)) = true := decide_eq_true c12
                have c12b1 : decide (l1.length < l0.length) = true := decide_eq_true (Int.ofNat_lt.mp c12)
                clear c12
                obtain rfl := Option.some.inj H
                go_wp2
                repeat (go_quiet (fail); try go_wp2)
                go_ret
                exact ⟨by first | rfl | (simp; done) | (simp [*]; done), by repeat (first | exact Drawn0.refl _ | apply Drawn0.step)⟩
              · rw [if_neg c12] at H
                have c12b0 : decide ((l1.length : Int) < (l0.length : Int)) = false := decide_eq_false c12
                have c12b1 : decide (l1.length < l0.length) = false := decide_eq_false (fun h => c12 (Int.ofNat_lt.mpr h))
                clear c12
                obtain rfl := Option.some.inj H
                go_wp2
                repeat (go_quiet (fail); try go_wp2)
                go_ret
                exact ⟨by first | rfl | (simp; done) | (simp [*]; done), by repeat (first | exact Drawn0.refl _ | apply Drawn0.step)⟩

/-! ### paronymref01_Same: function 16 -/
def paronymref01_Same.f (k : Nat) (l0 : List Int) (l1 : List Int) : Option (Bool) := (paronymref01_Compare.f k l0 l1).bind fun t159 => (some (t159 == 0))
theorem paronymref01_Same.mono : ∀ a0 a1 k, LeO (paronymref01_Same.f k a0 a1) (paronymref01_Same.f (k + 1) a0 a1) := by
  intro a0 a1 k
  unfold paronymref01_Same.f
  repeat' first
      | (with_reducible exact paronymref01_Compare.mono _ _ _)
      | (with_reducible exact LeO.refl _)
      | (with_reducible exact LeO.none _)
      | (with_reducible refine LeO.ite ?_ ?_)
      | (with_reducible refine LeO.bind ?_ (fun _ => ?_))
      | exact paronymref01_Compare.mono _ _ _
      | exact LeO.none _
      | refine LeO.ite ?_ ?_
      | refine LeO.bind ?_ (fun _ => ?_)
set_option maxHeartbeats 8000000 in
set_option maxRecDepth 100000 in
theorem paronymref01_Same.calls (k : Nat) (A0 : Option Addr) (c0 : Nat) (l0 : List Int) (A1 : Option Addr) (c1 : Nat) (l1 : List Int) (r : Bool) (w : World) (hr0 : Kd.C (Kd.int .i64) w A0 l0.length l0) (hc0 : l0.length ≤ c0) (hr1 : Kd.C (Kd.int .i64) w A1 l1.length l1) (hc1 : l1.length ≤ c1) (h : paronymref01_Same.f k l0 l1 = some r) :
    Calls Tryz.prog 16 #[.slice A0 l0.length c0, .slice A1 l1.length c1] w fun e w' => e = .returned (.bool r) ∧ Drawn0 w w' := by
  have HR0 := Aside0.mk hr0
  have HC0 := Aside0.mk hc0
  clear hr0 hc0
  have HR1 := Aside0.mk hr1
  have HC1 := Aside0.mk hc1
  clear hr1 hc1
  have H : ((paronymref01_Compare.f k l0 l1).bind fun t159 => (some (t159 == 0))) = some r := h
  clear h
  replace H := Option.bind_eq_some_iff.mp H
  obtain ⟨t159, A30, H⟩ := H
  replace H : (some (t159 == 0)) = some r := H
  have A3 := Aside0.mk A30
  clear A30
  obtain rfl := Option.some.inj H
  go_enter Tryz.func16, Tryz.ntmps16
  go_wp2_with (first | ((with_reducible refine gate_callee (f := 45) rfl ?_); refine goesL_ (some 7) rfl rfl Tryz.func45 (by kernel_rfl) rfl #[.slice A0 l0.length c0, .slice A1 l1.length c1] rfl (by (try simp only [List.map_toArray, List.map_cons, List.map_nil]); first | done | rfl | (simp only [List.length_drop, List.length_take]; rfl)) ?_; (with_reducible refine (paronymref01_Compare.calls k _ _ l0 _ _ l1 t159 _ ?side1 ?side2 ?side3 ?side4 A3.out).mono ?_); (case side1 => repeat (first | exact HR0.out | (with_reducible refine Kd.C_alloc ?_ _) | (with_reducible refine Kd.C_drewN ?_ _) | (with_reducible refine Kd.C_drew ?_))); (case side2 => exact HC0.out); (case side3 => repeat (first | exact HR1.out | (with_reducible refine Kd.C_alloc ?_ _) | (with_reducible refine Kd.C_drewN ?_ _) | (with_reducible refine Kd.C_drew ?_))); (case side4 => exact HC1.out); rintro e w' ⟨rfl, ⟨nd, rfl⟩⟩; refine ⟨_, rfl, ?_⟩))
  go_ret
  exact ⟨by first | rfl | (simp; done) | (simp [*]; done), by repeat (first | exact Drawn0.refl _ | apply Drawn0.step)⟩

end Go.Proofs.YtebgebgkieglhaaGreatDoor.PU
end
section
-- printed by the kit's print.py over several roots (printroots.sh): no hand has typed this
namespace Go.Proofs.YtebgebgkieglhaaGreatDoor.PU
open Go.RowKit Go.Proofs.YtebgebgkieglhaaGreatDoorW.PrintWords Go.Proofs.YtebgebgkieglhaaGreatDoorW.PrintLast Go.Proofs.YtebgebgkieglhaaGreatDoorW.PrintMore Go.Proofs.YtebgebgkieglhaaGreatDoor.PlugU
attribute [local go_sem] max2_int min2_int max_two min_two max_three min_three max_four min_four   -- for this text's walks alone
set_option linter.unusedVariables false
set_option linter.unusedSimpArgs false

end Go.Proofs.YtebgebgkieglhaaGreatDoor.PU
end
section
/- unicode: rows in memory. -/
namespace Go.Proofs.YtebgebgkieglhaaGreatDoor.FieldW
open Go.RowKit Go.Shelf Go.Lib Go.Proofs Go.Proofs.YtebgebgkieglhaaGreatDoorW.PrintWords Go.Proofs.YtebgebgkieglhaaGreatDoorW.PrintLast Go.Proofs.YtebgebgkieglhaaGreatDoorW.PrintMore Go.Proofs.YtebgebgkieglhaaGreatDoor.PRef
set_option linter.unusedVariables false
set_option linter.unusedSimpArgs false

/-- A row of UnicodeData. -/
structure URow where
  first : Int
  last : Int
  gc : ByteArray
  ccc : Int
  bidi : ByteArray
  dec : List Int
/-- A row's six cells. -/
def rowK : Kd URow := Kd.iso (Kd.pair (Kd.int .i64) (Kd.pair (Kd.int .i64) (Kd.pair Kd.string (Kd.pair (Kd.int .i64) (Kd.pair Kd.string (Kd.slice 3 (Kd.int .i64))))))) (fun r => (r.first, r.last, r.gc, r.ccc, r.bidi, r.dec))
def rowCells (r : URow) (vd : Value) : List Value := [.int .i64 r.first, .int .i64 r.last, .string r.gc, .int .i64 r.ccc, .string r.bidi, vd]
theorem rowK_sz : rowK.sz = 6 := rfl
theorem rowK_M {w : World} {base : Nat} {ok : Nat → Prop} {r : URow} {c : List Value} : rowK.M w base ok r c ↔ ∃ vd, c = rowCells r vd ∧ Kd.R (Kd.int .i64) 3 w base ok vd r.dec := by
  constructor
  · rintro ⟨c0, c1, rfl, h0, c2, c3, rfl, h2, c4, c5, rfl, h4, c6, c7, rfl, h6, c8, c9, rfl, h8, vd, rfl, h9⟩
    have e0 : c0 = [.int .i64 r.first] := h0
    have e2 : c2 = [.int .i64 r.last] := h2
    have e4 : c4 = [.string r.gc] := h4
    have e6 : c6 = [.int .i64 r.ccc] := h6
    have e8 : c8 = [.string r.bidi] := h8
    subst e0 e2 e4 e6 e8
    exact ⟨vd, rfl, h9⟩
  · rintro ⟨vd, rfl, h⟩
    exact ⟨[_], _, rfl, rfl, [_], _, rfl, rfl, [_], _, rfl, rfl, [_], _, rfl, rfl, [_], _, rfl, rfl, vd, rfl, h⟩
/-- What a row of rows gives at a place. -/
theorem rows_at {w : World} {base : Nat} {ok : Nat → Prop} {v : Value} {rs : List URow} (h : Kd.R rowK 40 w base ok v rs) (j : Nat) (hj : j < rs.length) :
    ∃ g cap cur vd, v = .slice (some ⟨g, 0, none⟩) rs.length cap ∧ base ≤ g ∧ ok g ∧ w.heap[g]? = some (.cells cur 40 (0, 0)) ∧ (∀ i u, (rowCells rs[j] vd)[i]? = some u → w.cell? ⟨g, 6 * j + i, none⟩ = some u) ∧ Kd.R (Kd.int .i64) 3 w base (fun k => ok k ∧ k ≠ g) vd rs[j].dec := by
  obtain ⟨h0, inner, ⟨hlen, hown⟩, hl2, hreps⟩ := h
  rcases hown with ⟨rfl, hn⟩ | ⟨g, cap, cur, rfl, hg, hh, hcap, hmax, hsz, htake⟩
  · omega
  · have hp := hreps j rs[j] (List.getElem?_eq_getElem hj)
    obtain ⟨vd, hc, hd⟩ := rowK_M.1 hp
    refine ⟨g, cap, cur, vd, rfl, hg, h0 g rfl, hh, fun i u hu => ?_, Kd.R_mono hd (fun k hk => ⟨hk.1, fun e => hk.2 (by rw [e]; rfl)⟩)⟩
    have hi : i < 6 := by
      have := (List.getElem?_eq_some_iff.1 hu).1
      simpa [rowCells] using this
    rw [← hc] at hu
    rw [blk_cell hh]
    rw [rowK_sz] at hu htake hsz
    have h1 : inner[j * 6 + i]? = some u := by
      rw [List.getElem?_take] at hu
      rw [if_pos hi] at hu
      rw [List.getElem?_drop] at hu
      exact hu
    rw [← htake] at h1
    rw [List.getElem?_take] at h1
    split at h1
    · rw [show 6 * j + i = j * 6 + i by omega, ← Array.getElem?_toList]; exact h1
    · cases h1
/-- The row of the rows, its last code point set anew. -/
theorem rows_set {w : World} {base : Nat} {ok : Nat → Prop} {g cap : Nat} {rs : List URow} (h : Kd.R rowK 40 w base ok (.slice (some ⟨g, 0, none⟩) rs.length cap) rs) (j : Nat) (hj : j < rs.length) (y : Int) :
    Kd.R rowK 40 (w.setCell ⟨g, 6 * j + 1, none⟩ (.int .i64 y)) base ok (.slice (some ⟨g, 0, none⟩) rs.length cap) (rs.set j { rs[j] with last := y }) := by
  obtain ⟨h0, inner, ⟨hlen, hown⟩, hl2, hreps⟩ := h
  rcases hown with ⟨e, hn⟩ | ⟨g', cap', cur, e, hg, hh, hcap, hmax, hsz, htake⟩
  · cases e
  · injection e with e1 e2 e3
    injection e1 with e1
    injection e1 with e1
    subst e1 e3
    rw [rowK_sz] at hlen hl2 hsz htake
    have hset : (rs.set j { rs[j] with last := y }).length = rs.length := by simp
    refine ⟨h0, inner.set (6 * j + 1) (.int .i64 y), ⟨by rw [rowK_sz, hset]; simpa using hlen, .inr ⟨g, cap, cur.setIfInBounds (6 * j + 1) (.int .i64 y), by rw [hset], hg, blk_set hh _ _, by rw [hset]; exact hcap, hmax, by rw [rowK_sz]; simpa using hsz, ?_⟩⟩, by rw [rowK_sz, hset]; simpa using hl2, ?_⟩
    · rw [rowK_sz, hset]
      simp only [Array.toList_setIfInBounds]
      rw [List.take_set, htake]
    · intro i p hp
      rw [List.getElem?_set] at hp
      have hfar : ∀ (q : URow) (c : List Value), rowK.M w base (fun k => ok k ∧ some k ≠ (Value.slice (some ⟨g, 0, none⟩) rs.length cap).ownBlock) q c → rowK.M (w.setCell ⟨g, 6 * j + 1, none⟩ (.int .i64 y)) base (fun k => ok k ∧ some k ≠ (Value.slice (some ⟨g, 0, none⟩) rs.length cap).ownBlock) q c := by
        intro q c hm
        obtain ⟨vd, hc, hd⟩ := rowK_M.1 hm
        exact rowK_M.2 ⟨vd, hc, Kd.R_far (p := ⟨g, 6 * j + 1, none⟩) hd (fun k hk e => hk.2 (by rw [e]; rfl)) _⟩
      rw [rowK_sz]
      by_cases hij : j = i
      · subst hij
        rw [if_pos rfl, if_pos hj] at hp
        injection hp with hp
        subst hp
        have h1 := hfar _ _ (hreps j rs[j] (List.getElem?_eq_getElem hj))
        rw [rowK_sz] at h1
        obtain ⟨vd, hc, hd⟩ := rowK_M.1 h1
        refine rowK_M.2 ⟨vd, ?_, hd⟩
        apply List.ext_getElem?
        intro m
        have hcm := congrArg (·[m]?) hc
        simp only [List.getElem?_take, List.getElem?_drop] at hcm
        simp only [List.getElem?_take, List.getElem?_drop, List.getElem?_set]
        rcases m with _ | _ | m
        · rw [if_pos (by omega : 0 < 6), if_neg (by omega : ¬ 6 * j + 1 = j * 6 + 0)]; simpa [rowCells] using hcm
        · rw [if_pos (by omega : 0 + 1 < 6), if_pos (by omega : 6 * j + 1 = j * 6 + (0 + 1)), if_pos (by omega : 6 * j + 1 < inner.length)]; rfl
        · rw [if_neg (by omega : ¬ 6 * j + 1 = j * 6 + (m + 1 + 1))]; simpa [rowCells] using hcm
      · rw [if_neg hij] at hp
        have h1 := hfar _ _ (hreps i p hp)
        rw [rowK_sz] at h1
        have e : ((inner.set (6 * j + 1) (Value.int IntKind.i64 y)).drop (i * 6)).take 6 = (inner.drop (i * 6)).take 6 := by
          apply List.ext_getElem?
          intro m
          simp only [List.getElem?_take, List.getElem?_drop, List.getElem?_set]
          by_cases hm : m < 6
          · rw [if_pos hm, if_pos hm, if_neg (by omega)]
          · rw [if_neg hm, if_neg hm]
        rw [e]
        exact h1
end Go.Proofs.YtebgebgkieglhaaGreatDoor.FieldW
end
section
/- unicode: named and close. -/
namespace Go.Proofs.YtebgebgkieglhaaGreatDoor.FieldW
open Go.RowKit Go.Shelf Go.Lib Go.Proofs Go.Proofs.YtebgebgkieglhaaGreatDoorW.PrintWords Go.Proofs.YtebgebgkieglhaaGreatDoorW.PrintLast Go.Proofs.YtebgebgkieglhaaGreatDoorW.PrintMore Go.Proofs.YtebgebgkieglhaaGreatDoor.PRef
set_option linter.unusedVariables false
set_option linter.unusedSimpArgs false

theorem quiet9 {P : Program} {f : FuncId} {args : Array Value} {w : World} {q n : Nat} {v : Value} (h : Calls P f args (w.drewN (q + n)) fun e w' => e = .returned v ∧ w' = w.drewN (q + n)) :
    Calls P f args (w.drewN (q + n)) fun e w'' => e = .returned v ∧ ∃ m, w'' = w.drewN (q + m) := h.mono fun _ _ ⟨he, hm⟩ => ⟨he, n, hm⟩
/-- Is a name a range's end? -/
def namedS (x : ByteArray) (suf : ByteArray) : Bool := Lib.hasPrefix x.data.toList [60] && Lib.hasSuffix x.data.toList suf.data.toList
set_option maxRecDepth 100000 in
set_option maxHeartbeats 4000000 in
theorem named_same (A : Option Addr) (c : Nat) (l : List ByteArray) (suf x : ByteArray) (w : World) (hr : Kd.C Kd.string w A l.length l) (h1 : l[1]? = some x) (hx : x.size ≤ 1000000) :
    Calls Tryz.prog 100 #[.slice A l.length c, .string suf] w fun e w' => e = .returned (.bool (namedS x suf)) ∧ w' = w := by
  have hlt : 1 < l.length := (List.getElem?_eq_some_iff.1 h1).1
  have hltz : (1 : Int) < (l.length : Int) := by omega
  obtain ⟨ad, rfl, hc0⟩ := Kd.at_string hr 1 (by omega) (by omega)
  have hc : w.cell? (ad.add 1) = some (.string x) := by
    rw [show (1 : Int).toNat = 1 from rfl] at hc0
    rw [hc0]
    simp [rdOf, h1]
  simp only [Nat.reduceEqDiff, Go.Addr.add, ↓reduceIte] at hc
  have P := Aside0.mk (Any.strings_HasPrefix Tryz.hasPrefixL x ⟨#[60]⟩ w)
  have S := Aside0.mk (Any.strings_HasSuffix Tryz.hasSuffixL x suf w (by omega))
  have hl1 : l.length ≤ 9223372036854775807 := Kd.C_max hr
  have hd : namedS x suf = (Lib.hasPrefix x.data.toList [60] && Lib.hasSuffix x.data.toList suf.data.toList) := rfl
  have HD := Aside0.mk hd
  clear hr h1 hc0 hd
  cases hb1 : Lib.hasPrefix x.data.toList [60] with
  | false =>
    have P2 : Aside0 (Calls Tryz.prog 119 #[.string x, .string ⟨#[60]⟩] w fun e w' => e = .returned (.bool false) ∧ w' = w) := ⟨by rw [← hb1]; exact P.out⟩
    rw [hb1] at HD
    clear P hb1
    go_enter Tryz.func100, Tryz.ntmps100
    go_wp2_with (go_at_call 119; with_reducible refine P2.out.mono ?_; rintro e w2 ⟨rfl, rfl⟩)
    go_ret
    exact ⟨by rw [HD.out]; rfl, rfl⟩
  | true =>
    have P2 : Aside0 (Calls Tryz.prog 119 #[.string x, .string ⟨#[60]⟩] w fun e w' => e = .returned (.bool true) ∧ w' = w) := ⟨by rw [← hb1]; exact P.out⟩
    rw [hb1] at HD
    clear P hb1
    cases hb2 : Lib.hasSuffix x.data.toList suf.data.toList with
    | _ =>
      rw [hb2] at HD
      have S2 : Aside0 (Calls Tryz.prog 120 #[.string x, .string suf] w fun e w' => e = .returned (.bool _) ∧ w' = w) := ⟨by have h := S.out; exact h⟩
      clear S
      go_enter Tryz.func100, Tryz.ntmps100
      go_wp2_with (first
        | (go_at_call 119; with_reducible refine P2.out.mono ?_; rintro e w2 ⟨rfl, rfl⟩)
        | (go_at_call 120; with_reducible refine S2.out.mono ?_; rintro e w2 ⟨rfl, rfl⟩; rw [hb2]))
      go_ret
      exact ⟨by rw [HD.out]; rfl, rfl⟩
/-- The parser in memory: its four cells, its rows. -/
def PS (ok : Nat → Prop) (w : World) (Bp base : Nat) (v : Value) (rs : List URow) (op : Bool) (ln : Int) (pl : Bool) : Prop :=
  w.heap[Bp]? = some (.cells #[v, .bool op, .int .i64 ln, .bool pl] 133 (0, 0)) ∧ Kd.R rowK 40 w base ok v rs
/-- What was there lies as it lay, but for the parser's cells and its rows' own block. -/
def Frame (w w' : World) (Bp : Nat) (v v' : Value) : Prop :=
  (∀ k, k < w.heap.size → k ≠ Bp → v.ownBlock ≠ some k → w'.heap[k]? = w.heap[k]?) ∧ (∀ r, v'.ownBlock = some r → v.ownBlock = some r ∨ w.heap.size ≤ r)
theorem Frame.of_below {w w' : World} {Bp : Nat} {v : Value} (h : Go.RowKit.Below w.heap.size w w') : Frame w w' Bp v v := ⟨fun k h1 _ _ => h.block k h1, fun r hr => .inl hr⟩
theorem Frame.before {w w1 w' : World} {Bp : Nat} {v v' : Value} (h : Go.RowKit.Below w.heap.size w w1) (f : Frame w1 w' Bp v v') : Frame w w' Bp v v' :=
  ⟨fun k h1 h2 h3 => (f.1 k (Nat.lt_of_lt_of_le h1 h.size) h2 h3).trans (h.block k h1), fun r hr => (f.2 r hr).imp id (fun q => Nat.le_trans h.size q)⟩
theorem Frame.after {w w1 w' : World} {Bp : Nat} {v v' : Value} (hs : w.heap.size ≤ w1.heap.size) (f : Frame w w1 Bp v v') (h : Go.RowKit.Below w1.heap.size w1 w') : Frame w w' Bp v v' :=
  ⟨fun k h1 h2 h3 => (h.block k (Nat.lt_of_lt_of_le h1 hs)).trans (f.1 k h1 h2 h3), f.2⟩
/-- Does a line close a range? -/
def closeS (l : List ByteArray) (own r : URow) (pl : Bool) : Bool :=
  namedS (l.getD 1 ByteArray.empty) ⟨#[44, 32, 76, 97, 115, 116, 62]⟩ && pl && (l.getD 5 ByteArray.empty).data.toList == [] && r.gc.data.toList == own.gc.data.toList && r.ccc == own.ccc && r.bidi.data.toList == own.bidi.data.toList && decide (own.first < r.first)
theorem closed {ok : Nat → Prop} {w W1 : World} {Bp base g n cap : Nat} {rs : List URow} {own : URow} {op pl : Bool} {ln y : Int} (hb : w.heap[Bp]? = some (.cells #[.slice (some ⟨g, 0, none⟩) (n + 1) cap, .bool op, .int .i64 ln, .bool pl] 133 (0, 0)))
    (hR : Kd.R rowK 40 w base ok (.slice (some ⟨g, 0, none⟩) (n + 1) cap) (rs ++ [own])) (hn : n = rs.length) (bel : Go.RowKit.Below w.heap.size w W1) (hok : ¬ ok Bp) (hgo : g ≠ Bp) (hg : base ≤ g) (hbp : base ≤ Bp) :
    Go.RowKit.Below base w ((W1.setCell ⟨g, n * 6 + 1, none⟩ (.int .i64 y)).setCell ⟨Bp, 1, none⟩ (.bool false)) ∧ PS ok ((W1.setCell ⟨g, n * 6 + 1, none⟩ (.int .i64 y)).setCell ⟨Bp, 1, none⟩ (.bool false)) Bp base (.slice (some ⟨g, 0, none⟩) (n + 1) cap) (rs ++ [{ own with last := y }]) false ln pl ∧
      Frame w ((W1.setCell ⟨g, n * 6 + 1, none⟩ (.int .i64 y)).setCell ⟨Bp, 1, none⟩ (.bool false)) Bp (.slice (some ⟨g, 0, none⟩) (n + 1) cap) (.slice (some ⟨g, 0, none⟩) (n + 1) cap) := by
  have b1 : Go.RowKit.Below base w W1 := bel.mono (Nat.le_trans hbp (Nat.le_of_lt (blk_lt hb)))
  refine ⟨(b1.setCell (p := ⟨g, n * 6 + 1, none⟩) hg _).setCell (p := ⟨Bp, 1, none⟩) hbp _, ⟨?_, ?_⟩, ?_, fun r hr => .inl hr⟩
  · have h1 : (W1.setCell ⟨g, n * 6 + 1, none⟩ (.int .i64 y)).heap[Bp]? = _ := (Go.RowKit.Below.heap_setCell W1 ⟨g, n * 6 + 1, none⟩ _ Bp hgo.symm).trans ((bel.block _ (blk_lt hb)).trans hb)
    exact blk_set h1 1 (.bool false)
  · have hl : (rs ++ [own]).length = n + 1 := by rw [hn]; simp
    have h1 := Kd.R_below hR bel
    rw [← hl] at h1
    have h2 := rows_set h1 n (by omega) y
    have e : (rs ++ [own]).set n { (rs ++ [own])[n]'(by omega) with last := y } = rs ++ [{ own with last := y }] := by
      subst hn
      simp
    rw [e, hl, show 6 * n + 1 = n * 6 + 1 by omega] at h2
    exact Kd.R_far (p := ⟨Bp, 1, none⟩) h2 (fun k hk e => hok (by have e' : k = Bp := e; rw [← e']; exact hk)) _
  · intro k h1 h2 h3
    exact (Go.RowKit.Below.heap_setCell _ ⟨Bp, 1, none⟩ _ k h2).trans ((Go.RowKit.Below.heap_setCell _ ⟨g, n * 6 + 1, none⟩ _ k (fun e => h3 (by rw [e]; rfl))).trans (bel.block k h1))
set_option maxRecDepth 100000 in
set_option maxHeartbeats 4000000 in
theorem close_calls (ok : Nat → Prop) (v : Value) (Bp base : Nat) (rs : List URow) (own : URow) (op pl : Bool) (ln : Int) (A : Option Addr) (c : Nat) (l : List ByteArray) (r : URow) (vd : Value) (w : World) (hP : PS ok w Bp base v (rs ++ [own]) op ln pl) (hok : ¬ ok Bp) (hbp : base ≤ Bp) (hr : Kd.C Kd.string w A l.length l) (hlc : l.length ≤ c) (h6 : 5 < l.length) (hrs : rs.length ≤ 1000000) (hsz : ∀ x ∈ l, x.size ≤ 1000000) :
    Calls Tryz.prog 99 #[.pointer (some ⟨Bp, 0, none⟩), .slice A l.length c, .agg #[.int .i64 r.first, .int .i64 r.last, .string r.gc, .int .i64 r.ccc, .string r.bidi, vd]] w fun e w' =>
      e = .returned (.bool (closeS l own r pl)) ∧ Go.RowKit.Below base w w' ∧ PS ok w' Bp base v (if closeS l own r pl then rs ++ [{ own with last := r.first }] else rs ++ [own]) (if closeS l own r pl then false else op) ln pl ∧ Frame w w' Bp v v := by
  obtain ⟨hb, hR⟩ := hP
  have hlen : (rs ++ [own]).length = rs.length + 1 := by simp
  obtain ⟨g, cap, cur, vo, rfl, hg, hgo0, hgh, hcells, -⟩ := rows_at hR rs.length (by rw [hlen]; omega)
  have hgo : g ≠ Bp := fun e => hok (e ▸ hgo0)
  have hlast : (rs ++ [own])[rs.length]'(by rw [hlen]; omega) = own := by simp
  rw [hlast] at hcells
  rw [hlen] at hb ⊢
  obtain ⟨n, hn⟩ : ∃ n, n = rs.length := ⟨_, rfl⟩
  rw [← hn] at hb hcells ⊢
  obtain ⟨ad, rfl, hc50⟩ := Kd.at_string hr 5 (by omega) (by omega)
  have x5 : w.cell? (ad.add 5) = some (.string (l.getD 5 ByteArray.empty)) := by
    rw [show (5 : Int).toNat = 5 from rfl] at hc50
    rw [hc50]; rfl
  have o0 := hcells 0 _ rfl
  have o2 := hcells 2 _ rfl
  have o3 := hcells 3 _ rfl
  have o4 := hcells 4 _ rfl
  have o1 := hcells 1 _ rfl
  have p0 : w.cell? ⟨Bp, 0, none⟩ = some _ := (blk_cell hb 0).trans rfl
  have p1 : w.cell? ⟨Bp, 1, none⟩ = some _ := (blk_cell hb 1).trans rfl
  have p3 : w.cell? ⟨Bp, 3, none⟩ = some _ := (blk_cell hb 3).trans rfl
  obtain ⟨x, hx⟩ : ∃ x, x = l.getD 1 ByteArray.empty := ⟨_, rfl⟩
  have hx1 : l[1]? = some x := by rw [hx, List.getD_eq_getElem?_getD, List.getElem?_eq_getElem (by omega)]; rfl
  have hxs : x.size ≤ 1000000 := hsz x (List.mem_of_getElem? hx1)
  have N := Aside0.mk (fun (W : World) (hW : Go.RowKit.Below w.heap.size w W) => named_same (some ad) c l ⟨#[44, 32, 76, 97, 115, 116, 62]⟩ x W (Kd.C_below hr hW) hx1 hxs)
  have hlz : (5 : Int) < (l.length : Int) := by omega
  have hl9 : l.length ≤ 9223372036854775807 := Kd.C_max hr
  have n9 : (n : Int) ≤ 1000000000 := by omega
  have n1 : ((n + 1 : Nat) : Int) - 1 = (n : Int) := by omega
  rw [hlen, ← hn] at hR
  have H := Aside0.mk (And.intro hb (And.intro hR (And.intro hgh hn)))
  have HX := Aside0.mk hx
  clear hb hR hgh hn hcells hr hx hx1 hc50
  obtain ⟨cb, hcb⟩ : ∃ cb, cb = closeS l own r pl := ⟨_, rfl⟩
  rw [← hcb]
  obtain ⟨R', hR'⟩ : ∃ R', R' = (if cb then rs ++ [{ own with last := r.first }] else rs ++ [own]) := ⟨_, rfl⟩
  obtain ⟨op', hop⟩ : ∃ op', op' = (if cb then false else op) := ⟨_, rfl⟩
  rw [← hR', ← hop]
  have HQ := Aside0.mk (And.intro hcb (And.intro hR' hop))
  clear hcb hR' hop
  go_enter Tryz.func99, Tryz.ntmps99
  go_wp2_with fail
  obtain ⟨W0, hW0⟩ : ∃ W0, W0 = w.alloc (.cells #[.int .i64 r.first, .int .i64 r.last, .string r.gc, .int .i64 r.ccc, .string r.bidi, vd] 40) := ⟨_, rfl⟩
  have hB0 : Go.RowKit.Below w.heap.size w W0 := by rw [hW0]; exact below_alloc (Go.RowKit.Below.refl _ _) _
  have hbx : W0.heap[w.heap.size]? = some (.cells #[.int .i64 r.first, .int .i64 r.last, .string r.gc, .int .i64 r.ccc, .string r.bidi, vd] 40 (0, 0)) := by rw [hW0]; exact heap_alloc_new _ _
  rw [← hW0]
  have up : ∀ (p : Addr) (u : Value), w.cell? p = some u → W0.cell? p = some u := fun p u h => (hB0.cell (World.block_lt_of_cell? w p h)).trans h
  replace x5 := up _ _ x5
  replace o0 := up _ _ o0
  replace o2 := up _ _ o2
  replace o3 := up _ _ o3
  replace o4 := up _ _ o4
  replace o1 := up _ _ o1
  replace p0 := up _ _ p0
  replace p1 := up _ _ p1
  replace p3 := up _ _ p3
  have b0 : W0.cell? ⟨w.heap.size, 0, none⟩ = some _ := (blk_cell hbx 0).trans rfl
  have b2 : W0.cell? ⟨w.heap.size, 2, none⟩ = some _ := (blk_cell hbx 2).trans rfl
  have b3 : W0.cell? ⟨w.heap.size, 3, none⟩ = some _ := (blk_cell hbx 3).trans rfl
  have b4 : W0.cell? ⟨w.heap.size, 4, none⟩ = some _ := (blk_cell hbx 4).trans rfl
  have H0 := Aside0.mk (And.intro hW0 (And.intro hB0 hbx))
  have fz1 := blk_frozen ((hB0.block _ (blk_lt H.out.2.2.1)).trans H.out.2.2.1) (n * 6 + 1)
  have fz2 := blk_frozen ((hB0.block _ (blk_lt H.out.1)).trans H.out.1) 1
  clear up hW0 hB0 hbx
  simp only [Nat.reduceEqDiff, Go.Addr.add, ↓reduceIte, Nat.add_zero, Nat.mul_comm 6 n] at x5 o0 o1 o2 o3 o4
  obtain ⟨s5, hs5⟩ : ∃ s5, s5 = l.getD 5 ByteArray.empty := ⟨_, rfl⟩
  rw [← hs5] at x5
  have hcl : closeS l own r pl = (namedS x ⟨#[44, 32, 76, 97, 115, 116, 62]⟩ && pl && s5.data.toList == [] && r.gc.data.toList == own.gc.data.toList && r.ccc == own.ccc && r.bidi.data.toList == own.bidi.data.toList && decide (own.first < r.first)) := by unfold closeS; rw [hs5, HX.out]
  have HCL := Aside0.mk hcl
  have h5e : (s5.toList == []) = (s5.data.toList == []) := by rw [ByteArray.toList_eq]
  have hge : (r.gc.toList == own.gc.toList) = (r.gc.data.toList == own.gc.data.toList) := by rw [ByteArray.toList_eq, ByteArray.toList_eq]
  have hbe : (r.bidi.toList == own.bidi.toList) = (r.bidi.data.toList == own.bidi.data.toList) := by rw [ByteArray.toList_eq, ByteArray.toList_eq]
  clear hcl hs5
  have g0 : Go.RowKit.Below w.heap.size w W0 := H0.out.2.1
  go_quiet (fail)
  go_wp2_with fail
  cases q1 : namedS x ⟨#[44, 32, 76, 97, 115, 116, 62]⟩ with
  | false =>
    rw [q1] at HCL
    have N2 := Aside0.mk (fun W hW => by have h := N.out W hW; rw [q1] at h; exact h)
    go_quiet ((go_at_call 100; refine quiet9 (N2.out _ (by repeat (first | exact g0 | apply pw_below_drewN | apply below_drew1)))))
    go_wp2_with fail
    go_ret
    have e_ : cb = false := by rw [HQ.out.1, HCL.out]; simp
    have eR : R' = rs ++ [own] := by rw [HQ.out.2.1, e_]; rfl
    have eo : op' = op := by rw [HQ.out.2.2, e_]; rfl
    have bel : ∀ m k_, Go.RowKit.Below w.heap.size w ((W0.drewN m).drewN k_) := fun m k_ => by repeat (first | exact g0 | apply pw_below_drewN | apply below_drew1)
    exact ⟨by rw [e_]; rfl, (bel _ _).mono (Nat.le_trans hbp (Nat.le_of_lt (blk_lt H.out.1))), ⟨by rw [eo]; exact ((bel _ _).block _ (blk_lt H.out.1)).trans H.out.1, by rw [eR]; exact Kd.R_below H.out.2.1 (bel _ _)⟩, Frame.of_below (bel _ _)⟩
  | true =>
    rw [q1] at HCL
    have N2 := Aside0.mk (fun W hW => by have h := N.out W hW; rw [q1] at h; exact h)
    cases q2 : pl with
    | false =>
      subst q2
      go_quiet ((go_at_call 100; refine quiet9 (N2.out _ (by repeat (first | exact g0 | apply pw_below_drewN | apply below_drew1)))))
      go_wp2_with fail
      go_ret
      have e_ : cb = false := by rw [HQ.out.1, HCL.out]; simp
      have eR : R' = rs ++ [own] := by rw [HQ.out.2.1, e_]; rfl
      have eo : op' = op := by rw [HQ.out.2.2, e_]; rfl
      have bel : ∀ m k_, Go.RowKit.Below w.heap.size w ((W0.drewN m).drewN k_) := fun m k_ => by repeat (first | exact g0 | apply pw_below_drewN | apply below_drew1)
      exact ⟨by rw [e_]; rfl, (bel _ _).mono (Nat.le_trans hbp (Nat.le_of_lt (blk_lt H.out.1))), ⟨by rw [eo]; exact ((bel _ _).block _ (blk_lt H.out.1)).trans H.out.1, by rw [eR]; exact Kd.R_below H.out.2.1 (bel _ _)⟩, Frame.of_below (bel _ _)⟩
    | true =>
      subst q2
      cases q3 : (s5.data.toList == []) with
      | false =>
        rw [q3] at h5e HCL
        go_quiet ((go_at_call 100; refine quiet9 (N2.out _ (by repeat (first | exact g0 | apply pw_below_drewN | apply below_drew1)))))
        go_wp2_with fail
        go_ret
        have e_ : cb = false := by rw [HQ.out.1, HCL.out]; simp
        have eR : R' = rs ++ [own] := by rw [HQ.out.2.1, e_]; rfl
        have eo : op' = op := by rw [HQ.out.2.2, e_]; rfl
        have bel : ∀ m k_, Go.RowKit.Below w.heap.size w ((W0.drewN m).drewN k_) := fun m k_ => by repeat (first | exact g0 | apply pw_below_drewN | apply below_drew1)
        exact ⟨by rw [e_]; rfl, (bel _ _).mono (Nat.le_trans hbp (Nat.le_of_lt (blk_lt H.out.1))), ⟨by rw [eo]; exact ((bel _ _).block _ (blk_lt H.out.1)).trans H.out.1, by rw [eR]; exact Kd.R_below H.out.2.1 (bel _ _)⟩, Frame.of_below (bel _ _)⟩
      | true =>
        rw [q3] at h5e HCL
        cases q4 : (r.gc.data.toList == own.gc.data.toList) with
        | false =>
          rw [q4] at hge HCL
          go_quiet ((go_at_call 100; refine quiet9 (N2.out _ (by repeat (first | exact g0 | apply pw_below_drewN | apply below_drew1)))))
          go_wp2_with fail
          go_ret
          have e_ : cb = false := by rw [HQ.out.1, HCL.out]; simp
          have eR : R' = rs ++ [own] := by rw [HQ.out.2.1, e_]; rfl
          have eo : op' = op := by rw [HQ.out.2.2, e_]; rfl
          have bel : ∀ m k_, Go.RowKit.Below w.heap.size w ((W0.drewN m).drewN k_) := fun m k_ => by repeat (first | exact g0 | apply pw_below_drewN | apply below_drew1)
          exact ⟨by rw [e_]; rfl, (bel _ _).mono (Nat.le_trans hbp (Nat.le_of_lt (blk_lt H.out.1))), ⟨by rw [eo]; exact ((bel _ _).block _ (blk_lt H.out.1)).trans H.out.1, by rw [eR]; exact Kd.R_below H.out.2.1 (bel _ _)⟩, Frame.of_below (bel _ _)⟩
        | true =>
          rw [q4] at hge HCL
          cases q5 : (r.ccc == own.ccc) with
          | false =>
            rw [q5] at HCL
            have f5 : (r.ccc != own.ccc) = true := by rw [bne, q5]; rfl
            go_quiet ((go_at_call 100; refine quiet9 (N2.out _ (by repeat (first | exact g0 | apply pw_below_drewN | apply below_drew1)))))
            go_wp2_with fail
            go_ret
            have e_ : cb = false := by rw [HQ.out.1, HCL.out]; simp
            have eR : R' = rs ++ [own] := by rw [HQ.out.2.1, e_]; rfl
            have eo : op' = op := by rw [HQ.out.2.2, e_]; rfl
            have bel : ∀ m k_, Go.RowKit.Below w.heap.size w ((W0.drewN m).drewN k_) := fun m k_ => by repeat (first | exact g0 | apply pw_below_drewN | apply below_drew1)
            exact ⟨by rw [e_]; rfl, (bel _ _).mono (Nat.le_trans hbp (Nat.le_of_lt (blk_lt H.out.1))), ⟨by rw [eo]; exact ((bel _ _).block _ (blk_lt H.out.1)).trans H.out.1, by rw [eR]; exact Kd.R_below H.out.2.1 (bel _ _)⟩, Frame.of_below (bel _ _)⟩
          | true =>
            rw [q5] at HCL
            have f5 : (r.ccc != own.ccc) = false := by rw [bne, q5]; rfl
            cases q6 : (r.bidi.data.toList == own.bidi.data.toList) with
            | false =>
              rw [q6] at hbe HCL
              go_quiet ((go_at_call 100; refine quiet9 (N2.out _ (by repeat (first | exact g0 | apply pw_below_drewN | apply below_drew1)))))
              go_wp2_with fail
              go_ret
              have e_ : cb = false := by rw [HQ.out.1, HCL.out]; simp
              have eR : R' = rs ++ [own] := by rw [HQ.out.2.1, e_]; rfl
              have eo : op' = op := by rw [HQ.out.2.2, e_]; rfl
              have bel : ∀ m k_, Go.RowKit.Below w.heap.size w ((W0.drewN m).drewN k_) := fun m k_ => by repeat (first | exact g0 | apply pw_below_drewN | apply below_drew1)
              exact ⟨by rw [e_]; rfl, (bel _ _).mono (Nat.le_trans hbp (Nat.le_of_lt (blk_lt H.out.1))), ⟨by rw [eo]; exact ((bel _ _).block _ (blk_lt H.out.1)).trans H.out.1, by rw [eR]; exact Kd.R_below H.out.2.1 (bel _ _)⟩, Frame.of_below (bel _ _)⟩
            | true =>
              rw [q6] at hbe HCL
              cases q7 : decide (own.first < r.first) with
              | false =>
                rw [q7] at HCL
                have f7 : decide (r.first ≤ own.first) = true := decide_eq_true (by have := of_decide_eq_false q7; omega)
                go_quiet ((go_at_call 100; refine quiet9 (N2.out _ (by repeat (first | exact g0 | apply pw_below_drewN | apply below_drew1)))))
                go_wp2_with fail
                go_ret
                have e_ : cb = false := by rw [HQ.out.1, HCL.out]; simp
                have eR : R' = rs ++ [own] := by rw [HQ.out.2.1, e_]; rfl
                have eo : op' = op := by rw [HQ.out.2.2, e_]; rfl
                have bel : ∀ m k_, Go.RowKit.Below w.heap.size w ((W0.drewN m).drewN k_) := fun m k_ => by repeat (first | exact g0 | apply pw_below_drewN | apply below_drew1)
                exact ⟨by rw [e_]; rfl, (bel _ _).mono (Nat.le_trans hbp (Nat.le_of_lt (blk_lt H.out.1))), ⟨by rw [eo]; exact ((bel _ _).block _ (blk_lt H.out.1)).trans H.out.1, by rw [eR]; exact Kd.R_below H.out.2.1 (bel _ _)⟩, Frame.of_below (bel _ _)⟩
              | true =>
                rw [q7] at HCL
                have f7 : decide (r.first ≤ own.first) = false := decide_eq_false (by have := of_decide_eq_true q7; omega)
                go_quiet ((go_at_call 100; refine quiet9 (N2.out _ (by repeat (first | exact g0 | apply pw_below_drewN | apply below_drew1)))))
                go_wp2_with fail
                go_ret
                have e_ : cb = true := by rw [HQ.out.1, HCL.out]; simp
                have eR : R' = rs ++ [{ own with last := r.first }] := by rw [HQ.out.2.1, e_]; rfl
                have eo : op' = false := by rw [HQ.out.2.2, e_]; rfl
                have bel : ∀ m, Go.RowKit.Below w.heap.size w (W0.drewN m) := fun m => by repeat (first | exact g0 | apply pw_below_drewN | apply below_drew1)
                obtain ⟨k1, k2, k3⟩ := closed (y := r.first) H.out.1 H.out.2.1 H.out.2.2.2 (bel (_ + _)) hok hgo hg hbp
                rw [e_, eR, eo]
                exact ⟨rfl, k1, k2, k3⟩
end Go.Proofs.YtebgebgkieglhaaGreatDoor.FieldW
end
section
/- unicode: take. -/
namespace Go.Proofs.YtebgebgkieglhaaGreatDoor.FieldW
open Go.RowKit Go.Shelf Go.Lib Go.Proofs Go.Proofs.YtebgebgkieglhaaGreatDoorW.PrintWords Go.Proofs.YtebgebgkieglhaaGreatDoorW.PrintLast Go.Proofs.YtebgebgkieglhaaGreatDoorW.PrintMore Go.Proofs.YtebgebgkieglhaaGreatDoor.PRef
set_option linter.unusedVariables false
set_option linter.unusedSimpArgs false

/-- What a parser has read. -/
structure PSt where
  rs : List URow
  op : Bool
  ln : Int
  pl : Bool
/-- The last row's last code point, or one below all. -/
def lastOf (rs : List URow) : Option URow := rs.getLast?
/-- One line: the error and its line, and what has been read behind it. -/
def takeS (s : PSt) (N : Int) (l : List ByteArray) (r : URow) (e : Int) : Int × Int × PSt :=
  if e ≠ 0 then (e, N, s)
  else if s.op then match s.rs.getLast? with
    | none => (14, s.ln, s)
    | some own => if closeS l own r s.pl then (0, 0, { s with rs := s.rs.dropLast ++ [{ own with last := r.first }], op := false }) else (14, s.ln, s)
  else if (match s.rs.getLast? with | none => false | some own => decide (r.first ≤ own.last)) then (15, N, s)
  else if namedS (l.getD 1 ByteArray.empty) ⟨#[44, 32, 70, 105, 114, 115, 116, 62]⟩ then (0, 0, ⟨s.rs ++ [r], true, N, (l.getD 5 ByteArray.empty).data.toList == []⟩)
  else (0, 0, { s with rs := s.rs ++ [r] })
def PSw (ok : Nat → Prop) (w : World) (Bp base : Nat) (v : Value) (s : PSt) : Prop := PS ok w Bp base v s.rs s.op s.ln s.pl
theorem info40 : (Tryz.prog.info? 40).map (fun i => (i.zero, i.size, i.bytes)) = some (some (.agg #[.int .i64 0, .int .i64 0, .string ⟨#[]⟩, .int .i64 0, .string ⟨#[]⟩, .slice none 0 0]), 6, 80) := by kernel_rfl
set_option maxRecDepth 100000 in
set_option maxHeartbeats 4000000 in
theorem take_calls (ok : Nat → Prop) (v : Value) (Bp base : Nat) (s : PSt) (N : Int) (A : Option Addr) (c : Nat) (l : List ByteArray) (r : URow) (e : Int) (w : World) (hP : PSw ok w Bp base v s) (hok : ¬ ok Bp) (hfr : ∀ k, w.heap.size ≤ k → ok k) (hbp : base ≤ Bp) (h9 : 9 < base) (b0 : Nat) (hF : Kd.R Kd.string 9 w b0 (fun _ => True) (.slice A l.length c) l) (hrs : s.rs.length ≤ 1000000) (hsz : ∀ x ∈ l, x.size ≤ 1000000) (T : Tabs w)
    (hrow : Go.Proofs.YtebgebgkieglhaaGreatDoor.PU.unicode_row.f 1 l = some (r.first, r.last, r.gc, r.ccc, r.bidi, r.dec, e)) (h15 : e = 0 → l.length = 15) (hop : s.op = true → s.rs ≠ []) :
    Calls Tryz.prog 77 #[.pointer (some ⟨Bp, 0, none⟩), .agg #[.int .i64 N, .slice A l.length c]] w fun e' w' =>
      e' = .returned (.tuple #[.int .i64 (takeS s N l r e).1, .int .i64 (takeS s N l r e).2.1]) ∧ Go.RowKit.Below base w w' ∧ ∃ v', PSw ok w' Bp base v' (takeS s N l r e).2.2 ∧ Frame w w' Bp v v' := by
  have hr := (Kd.R_reads' hF).2.2
  have hlc := (Kd.R_reads' hF).2.1
  have HF := Aside0.mk hF
  clear hF
  obtain ⟨hb, hR⟩ := hP
  obtain ⟨t, ht⟩ : ∃ t, t = takeS s N l r e := ⟨_, rfl⟩
  rw [← ht]
  have hBpw := blk_lt hb
  have HP := Aside0.mk (And.intro hb (And.intro hR (And.intro ht hBpw)))
  have CR : Aside0 (∀ W : World, Go.RowKit.Below w.heap.size w W → Calls Tryz.prog 98 #[.slice A l.length c] W fun e_ w' => ∃ vd, e_ = .returned (.tuple #[.agg #[.int .i64 r.first, .int .i64 r.last, .string r.gc, .int .i64 r.ccc, .string r.bidi, vd], .int .i64 e]) ∧ Kd.R (Kd.int .i64) 3 w' W.heap.size (fun _ => True) vd r.dec ∧ Go.RowKit.Below W.heap.size W w') := ⟨fun W hW => Go.Proofs.YtebgebgkieglhaaGreatDoor.PU.unicode_row.calls 1 A c l _ _ _ _ _ _ _ W (Kd.C_below hr hW) hlc hrow (T.below hW)⟩
  have HC := Aside0.mk hr
  clear hb hR ht hr hrow
  go_enter Tryz.func77, Tryz.ntmps77
  go_upto_region 1 with fail
  obtain ⟨W0, hW0⟩ : ∃ W0, W0 = w.alloc (.cells #[.int .i64 N, .slice A l.length c] 138) := ⟨_, rfl⟩
  have hB0 : Go.RowKit.Below w.heap.size w W0 := by rw [hW0]; exact below_alloc (Go.RowKit.Below.refl _ _) _
  have hbx : W0.heap[w.heap.size]? = some (.cells #[.int .i64 N, .slice A l.length c] 138 (0, 0)) := by rw [hW0]; exact heap_alloc_new _ _
  rw [← hW0]
  have l1 : W0.cell? ⟨w.heap.size, 1, none⟩ = some _ := (blk_cell hbx 1).trans rfl
  have HB0 := Aside0.mk (And.intro hB0 (And.intro hbx (blk_lt hbx)))
  clear hW0 hB0 hbx
  go_upto_region 2 with (go_at_call 98; with_reducible refine (CR.out _ HB0.out.1).mono ?_; rintro e_ w1 ⟨vd, rfl, hd, hq⟩; obtain ⟨Ad, cd, rfl⟩ := Kd.R_slice hd; have HQ := Aside0.mk (And.intro hq hd); clear hq hd CR)
  obtain ⟨W2, hW2⟩ : ∃ W2, W2 = w1.alloc (.cells #[.int .i64 r.first, .int .i64 r.last, .string r.gc, .int .i64 r.ccc, .string r.bidi, .slice Ad r.dec.length cd] 40) := ⟨_, rfl⟩
  have hB1 : Go.RowKit.Below w.heap.size w w1 := HB0.out.1.trans (HQ.out.1.mono HB0.out.1.size)
  have hB2 : Go.RowKit.Below w.heap.size w W2 := by rw [hW2]; exact below_alloc hB1 _
  have hbt : W2.heap[w1.heap.size]? = some (.cells #[.int .i64 r.first, .int .i64 r.last, .string r.gc, .int .i64 r.ccc, .string r.bidi, .slice Ad r.dec.length cd] 40 (0, 0)) := by rw [hW2]; exact heap_alloc_new _ _
  have hbl : W2.heap[w.heap.size]? = some (.cells #[.int .i64 N, .slice A l.length c] 138 (0, 0)) := by
    rw [hW2]
    exact (Go.RowKit.Below.heap_alloc _ _ _ (Nat.lt_of_lt_of_le HB0.out.2.2 HQ.out.1.size)).trans ((HQ.out.1.block _ HB0.out.2.2).trans HB0.out.2.1)
  have hd2 : Kd.R (Kd.int .i64) 3 W2 W0.heap.size (fun _ => True) (.slice Ad r.dec.length cd) r.dec := by rw [hW2]; exact Kd.R_below HQ.out.2 (below_alloc (Go.RowKit.Below.refl _ _) _)
  have hb2 := (hB2.block _ HP.out.2.2.2).trans HP.out.1
  have hR2 := Kd.R_below HP.out.2.1 hB2
  have hC2 := Kd.C_below HC.out hB2
  have T2 := T.below hB2
  rw [← hW2]
  have l0 : W2.cell? ⟨w.heap.size, 0, none⟩ = some _ := (blk_cell hbl 0).trans rfl
  have l1 : W2.cell? ⟨w.heap.size, 1, none⟩ = some _ := (blk_cell hbl 1).trans rfl
  have t0 : W2.cell? ⟨w1.heap.size, 0, none⟩ = some _ := (blk_cell hbt 0).trans rfl
  have t1 : W2.cell? ⟨w1.heap.size, 1, none⟩ = some _ := (blk_cell hbt 1).trans rfl
  have t2 : W2.cell? ⟨w1.heap.size, 2, none⟩ = some _ := (blk_cell hbt 2).trans rfl
  have t3 : W2.cell? ⟨w1.heap.size, 3, none⟩ = some _ := (blk_cell hbt 3).trans rfl
  have t4 : W2.cell? ⟨w1.heap.size, 4, none⟩ = some _ := (blk_cell hbt 4).trans rfl
  have t5 : W2.cell? ⟨w1.heap.size, 5, none⟩ = some _ := (blk_cell hbt 5).trans rfl
  obtain ⟨A3, c3, rfl⟩ := Kd.R_slice hR2
  have p0 : W2.cell? ⟨Bp, 0, none⟩ = some _ := (blk_cell hb2 0).trans rfl
  have p1 : W2.cell? ⟨Bp, 1, none⟩ = some _ := (blk_cell hb2 1).trans rfl
  have p2 : W2.cell? ⟨Bp, 2, none⟩ = some _ := (blk_cell hb2 2).trans rfl
  have hne : Bp < w.heap.size ∧ w.heap.size < w1.heap.size := ⟨HP.out.2.2.2, Nat.lt_of_lt_of_le HB0.out.2.2 HQ.out.1.size⟩
  have H2 := Aside0.mk (And.intro hB2 (And.intro hb2 (And.intro hR2 (And.intro hC2 (And.intro T2 (And.intro hbl (And.intro hbt hd2)))))))
  have HW2 := Aside0.mk hW2
  clear hW2 hB1 hB2 hbt hbl hd2 hb2 hR2 hC2 T2 l1
  have l1 : W2.cell? ⟨w.heap.size, 1, none⟩ = some _ := (blk_cell H2.out.2.2.2.2.2.1 1).trans rfl
  have bel2 : Go.RowKit.Below base w W2 := H2.out.1.mono (Nat.le_trans hbp (Nat.le_of_lt hne.1))
  have PSb : ∀ W, Go.RowKit.Below W2.heap.size W2 W → ∃ v', PSw ok W Bp base v' s ∧ Frame w W Bp (.slice A3 s.rs.length c3) v' := fun W hW => ⟨_, ⟨(hW.block _ (blk_lt H2.out.2.1)).trans H2.out.2.1, Kd.R_below H2.out.2.2.1 hW⟩, Frame.of_below (H2.out.1.trans (hW.mono H2.out.1.size))⟩
  have PSB := Aside0.mk PSb
  have BEL2 := Aside0.mk bel2
  clear PSb bel2
  have drw : ∀ m k_, Go.RowKit.Below W2.heap.size W2 ((W2.drewN m).drewN k_) := fun m k_ => by repeat (first | exact Go.RowKit.Below.refl _ _ | apply pw_below_drewN | apply below_drew1)
  have DRW := Aside0.mk drw
  clear drw
  by_cases he : e = 0
  · have heb : (e != 0) = false := bne_eq_false_iff_eq.2 he
    have HL := Aside0.mk (h15 he)
    have HT : Aside0 (t = takeS s N l r 0) := ⟨by rw [HP.out.2.2.1, he]⟩
    subst he
    clear h15
    cases hso : s.op with
    | true =>
      obtain ⟨pre, own, hpo⟩ : ∃ pre own, s.rs = pre ++ [own] := by
        rcases List.eq_nil_or_concat s.rs with h | ⟨pre, own, h⟩
        · exact absurd h (hop hso)
        · exact ⟨pre, own, by rw [h]; simp⟩
      rw [hso] at p1
      have hP2 : PS ok W2 Bp base (.slice A3 s.rs.length c3) (pre ++ [own]) true s.ln s.pl := ⟨by have h := H2.out.2.1; rw [hso] at h; exact h, by have h := H2.out.2.2.1; rw [hpo] at h ⊢; exact h⟩
      have hpl : pre.length ≤ 1000000 := by have := congrArg List.length hpo; simp at this; omega
      have CC := Aside0.mk (close_calls ok (.slice A3 s.rs.length c3) Bp base pre own true s.pl s.ln A c l r (.slice Ad r.dec.length cd) W2 hP2 hok hbp H2.out.2.2.2.1 hlc (by have := HL.out; omega) hpl hsz)
      obtain ⟨cb, hcb⟩ : ∃ cb, cb = closeS l own r s.pl := ⟨_, rfl⟩
      rw [← hcb] at CC
      have htt : t = if cb then (0, 0, { s with rs := pre ++ [{ own with last := r.first }], op := false }) else (14, s.ln, s) := by
        rw [HT.out]
        unfold takeS
        rw [if_neg (by omega), if_pos hso, hpo]
        simp only [List.getLast?_concat, List.dropLast_concat]
        rw [hcb]
      have HTT := Aside0.mk htt
      have HPO := Aside0.mk (And.intro hpo hso)
      clear hP2 hcb htt hpo hso HT
      cases cb with
      | true =>
        have hts := HTT.out
        rw [if_pos rfl] at hts
        subst hts
        go_wp2_with (go_at_call 99; with_reducible refine CC.out.mono ?_; rintro e_ w3 ⟨rfl, hb3, hps3, hfr3⟩; have H3 := Aside0.mk (And.intro hb3 (And.intro hps3 hfr3)); clear hb3 hps3 hfr3 CC)
        go_ret2
        exact ⟨rfl, BEL2.out.trans H3.out.1, _, H3.out.2.1, Frame.before H2.out.1 H3.out.2.2⟩
      | false =>
        have hts := HTT.out
        rw [if_neg (by decide)] at hts
        subst hts
        go_upto_region 6 with (go_at_call 99; with_reducible refine CC.out.mono ?_; rintro e_ w3 ⟨rfl, hb3, hps3, hfr3⟩; have H3 := Aside0.mk (And.intro hb3 (And.intro hps3 hfr3)); clear hb3 hps3 hfr3 CC)
        obtain ⟨hb3, hR3⟩ := H3.out.2.1
        have y2 : w3.cell? ⟨Bp, 2, none⟩ = some _ := (blk_cell hb3 2).trans rfl
        have HB3 := Aside0.mk (And.intro hb3 hR3)
        clear hb3 hR3
        go_quiet (fail)
        go_wp2_with fail
        go_ret2
        have d3 : ∀ m k_, Go.RowKit.Below w3.heap.size w3 ((w3.drewN m).drewN k_) := fun m k_ => by repeat (first | exact Go.RowKit.Below.refl _ _ | apply pw_below_drewN | apply below_drew1)
        refine ⟨rfl, BEL2.out.trans (H3.out.1.trans ((d3 _ 0).mono (Nat.le_trans hbp (Nat.le_of_lt (blk_lt HB3.out.1))))), _, ⟨?_, ?_⟩, Frame.before H2.out.1 (Frame.after H3.out.1.size H3.out.2.2 (d3 _ 0))⟩
        · rw [HPO.out.2]
          exact ((d3 _ 0).block _ (blk_lt HB3.out.1)).trans HB3.out.1
        · have key : ∀ (W : World), Kd.R rowK 40 W base ok (.slice A3 s.rs.length c3) (pre ++ [own]) → Kd.R rowK 40 W base ok (.slice A3 s.rs.length c3) s.rs := fun W h => by
            rw [← HPO.out.1] at h; exact h
          exact key _ (Kd.R_below HB3.out.2 (d3 _ 0))
    | false =>
      rw [hso] at p1
      have HSO := Aside0.mk hso
      have ht0 : t = if (match s.rs.getLast? with | none => false | some own => decide (r.first ≤ own.last)) then (15, N, s) else if namedS (l.getD 1 ByteArray.empty) ⟨#[44, 32, 70, 105, 114, 115, 116, 62]⟩ then (0, 0, ⟨s.rs ++ [r], true, N, (l.getD 5 ByteArray.empty).data.toList == []⟩) else (0, 0, { s with rs := s.rs ++ [r] }) := by
        rw [HT.out]
        unfold takeS
        rw [if_neg (by omega), if_neg (by rw [hso]; decide)]
      have HT0 := Aside0.mk ht0
      clear hso ht0 HT
      -- the place of the last row, where there is one
      rcases List.eq_nil_or_concat s.rs with hnil | ⟨pre, own, hpo0⟩
      · have hn0 : s.rs.length = 0 := by rw [hnil]; rfl
        have hnz : ¬ ((s.rs.length : Int) > 0) := by omega
        have hnb : decide (0 < (s.rs.length : Int)) = false := decide_eq_false (by omega)
        have hnc : decide (0 < s.rs.length) = false := decide_eq_false (by omega)
        have hm : (match s.rs.getLast? with | none => false | some own => decide (r.first ≤ own.last)) = false := by rw [hnil]; rfl
        have ht1 := HT0.out
        rw [hm, if_neg (by decide)] at ht1
        have HT1 := Aside0.mk ht1
        clear ht1 HT0 hn0 hnil hm
        go_wp2_with fail
        go_quiet (fail)
        obtain ⟨W3, hW3⟩ : ∃ W3, W3 = W2.drewN nq := ⟨_, rfl⟩
        have b3 : Go.RowKit.Below W2.heap.size W2 W3 := by rw [hW3]; exact pw_below_drewN (Go.RowKit.Below.refl _ _) _
        rw [← hW3]
        have HB3 := Aside0.mk (And.intro b3 (by rw [hW3]; simp : W3.heap.size = W2.heap.size))
        clear b3 hW3
        have up : ∀ (q : Addr) (u : Value), W2.cell? q = some u → W3.cell? q = some u := fun q u h => (HB3.out.1.cell (World.block_lt_of_cell? W2 q h)).trans h
        replace p0 := up _ _ p0
        replace t0 := up _ _ t0
        replace t1 := up _ _ t1
        replace t2 := up _ _ t2
        replace t3 := up _ _ t3
        replace t4 := up _ _ t4
        replace t5 := up _ _ t5
        have HL0 := Aside0.mk (up _ _ l0)
        have HL1 := Aside0.mk (up _ _ l1)
        clear up l0 l1 p1 p2
        go_wp2_with fail
        have okk : ∀ k, (Value.slice A3 s.rs.length c3).ownBlock = some k → k < w.heap.size := fun k hk => ((Kd.R_bound HP.out.2.1).1 k hk).2.2.1
        have a1 : rowK.M W3.drew base (fun k => w.heap.size ≤ k) r (rowCells r (.slice Ad r.dec.length cd)) := rowK_M.2 ⟨_, rfl, Kd.R_drew (Kd.R_below (Kd.R_lower (Kd.R_mono (Kd.R_bound H2.out.2.2.2.2.2.2.2) (fun k hk => Nat.le_trans HB0.out.1.size hk.2.1)) (Nat.le_trans (Nat.le_trans hbp (Nat.le_of_lt hne.1)) HB0.out.1.size)) HB3.out.1)⟩
        have a2 : ∀ k, w.heap.size ≤ k → ok k ∧ some k ≠ (Value.slice A3 s.rs.length c3).ownBlock := fun k hk => ⟨hfr k hk, fun e_ => by have := okk k e_.symm; omega⟩
        have a4 : Kd.R rowK 40 W3.drew base ok (.slice A3 s.rs.length c3) s.rs := Kd.R_drew (Kd.R_below H2.out.2.2.1 HB3.out.1)
        have a5 : Go.RowKit.Below base w W3.drew := BEL2.out.trans ((HB3.out.1.mono (Nat.le_trans (Nat.le_trans hbp (Nat.le_of_lt hne.1)) H2.out.1.size)).trans (by apply below_drew1; exact Go.RowKit.Below.refl _ _))
        have a6 : base ≤ W3.drew.heap.size := Nat.le_trans (Nat.le_trans hbp (Nat.le_of_lt hne.1)) (Nat.le_trans H2.out.1.size HB3.out.1.size)
        have a3 : ∀ k, W3.drew.heap.size ≤ k → ok k := fun k hk => hfr k (by
          have h1 := Nat.le_trans H2.out.1.size HB3.out.1.size
          have h2 : W3.heap.size ≤ k := hk
          omega)
        have a7 : (s.rs.length + 1) * 80 ≤ 140737488355328 := by omega
        have hbW : W3.drew.heap[Bp]? = some _ := (HB3.out.1.block _ (blk_lt H2.out.2.1)).trans H2.out.2.1
        have nw : W3.heap.size ≠ Bp := by have h1 := Nat.le_trans H2.out.1.size HB3.out.1.size; omega
        have pa : ∀ o, (W3.alloc o).cell? ⟨Bp, 0, none⟩ = some (.slice A3 s.rs.length c3) := fun o => cell_grows9 p0
        have AA := Aside0.mk (And.intro a1 (And.intro a2 (And.intro a3 (And.intro a4 (And.intro a5 (And.intro a6 (And.intro a7 (And.intro hbW okk))))))))
        clear okk a1 a2 a3 a4 a5 a6 a7 hbW
        go_region_law (refine Kd.R_append_step (W := W3.drew) rowK (w0 := w) base (by rfl) (.tmp 66) (.tmp 68) 59 40 (.agg #[.int .i64 0, .int .i64 0, .string ⟨#[]⟩, .int .i64 0, .string ⟨#[]⟩, .slice none 0 0]) 80 rfl Tryz.underlying59 info40 rfl (by decide) (by omega) (.slice A3 s.rs.length c3) s.rs r (rowCells r (.slice Ad r.dec.length cd)) ok (fun k => w.heap.size ≤ k) (by first | rfl | simp [Act.eval, Act.put]) (by first | rfl | simp [Act.eval, Act.put]) AA.out.1 AA.out.2.1 AA.out.2.2.1 AA.out.2.2.2.1 AA.out.2.2.2.2.1 AA.out.2.2.2.2.2.1 AA.out.2.2.2.2.2.2.1 ?_; intro v9 w9 ho9 hb9 hg9 hat9; obtain ⟨A9, c9, rfl⟩ := Kd.R_slice ho9; have hbp9 : w9.heap[Bp]? = some _ := (hg9.block _ (blk_lt AA.out.2.2.2.2.2.2.2.1) (fun e_ => absurd (H2.out.2.2.1.1 Bp e_.symm) hok)).trans AA.out.2.2.2.2.2.2.2.1; have fz9 := blk_frozen hbp9 0; have z0 : w9.cell? ⟨Bp, 0, none⟩ = some _ := (blk_cell hbp9 0).trans rfl; have H9 := Aside0.mk (And.intro ho9 (And.intro hb9 (And.intro hg9 (And.intro hat9 hbp9)))); clear ho9 hb9 hg9 hat9 hbp9)
        all_goals
          have NB : ∀ k, ok k → k ≠ Bp := fun k hk e_ => hok (e_ ▸ hk)
          obtain ⟨W4, hW4⟩ : ∃ W4, W4 = w9.setCell ⟨Bp, 0, none⟩ (.slice A9 (s.rs.length + 1) c9) := ⟨_, rfl⟩
          have keep : ∀ k, k < W3.heap.size → k ≠ Bp → (Value.slice A3 s.rs.length c3).ownBlock ≠ some k → W4.heap[k]? = W3.heap[k]? := fun k h1 h2 h3 => by
            rw [hW4]
            exact (Go.RowKit.Below.heap_setCell _ ⟨Bp, 0, none⟩ _ _ h2).trans (H9.out.2.2.1.block k h1 (fun e_ => h3 e_.symm))
          have hb4 : W4.heap[Bp]? = some (.cells #[.slice A9 (s.rs.length + 1) c9, .bool s.op, .int .i64 s.ln, .bool s.pl] 133 (0, 0)) := by rw [hW4]; exact blk_set H9.out.2.2.2.2 0 _
          have hR4 : Kd.R rowK 40 W4 base ok (.slice A9 (s.rs.length + 1) c9) (s.rs ++ [r]) := by
            have h := Kd.R_far (p := ⟨Bp, 0, none⟩) H9.out.1 NB (.slice A9 (s.rs.length + 1) c9)
            have e_ : (s.rs ++ [r]).length = s.rs.length + 1 := by simp
            rw [e_] at h
            rw [hW4]; exact h
          have bel4 : Go.RowKit.Below base w W4 := by rw [hW4]; exact H9.out.2.1.setCell (p := ⟨Bp, 0, none⟩) hbp _
          have w23 : w.heap.size < W3.heap.size := Nat.lt_of_lt_of_le hne.2 (Nat.le_trans (by have := blk_lt H2.out.2.2.2.2.2.2.1; omega) HB3.out.1.size)
          have hbl4 : W4.heap[w.heap.size]? = some (.cells #[.int .i64 N, .slice A l.length c] 138 (0, 0)) := (keep _ w23 (by omega) (fun e_ => by have := AA.out.2.2.2.2.2.2.2.2 _ e_; omega)).trans ((HB3.out.1.block _ (by have := blk_lt H2.out.2.2.2.2.2.1; omega)).trans H2.out.2.2.2.2.2.1)
          have hF4 : Kd.R Kd.string 9 W4 b0 (fun _ => True) (.slice A l.length c) l := by
            have h1 := Kd.R_bound (Kd.R_below HF.out H2.out.1)
            refine Kd.R_mono (Kd.R_step (Kd.R_mono (Kd.R_bound (Kd.R_below HF.out (H2.out.1.trans (HB3.out.1.mono H2.out.1.size)))) (fun k hk => hk.2.2)) (fun k hk hlt => ?_)) (fun _ _ => trivial)
            obtain ⟨_, q, hq, cells, hc⟩ := hk
            have hq9 : q = 9 := by
              rcases List.mem_cons.1 hq with h | h
              · exact h
              · cases h
            subst hq9
            refine keep k hlt (fun e_ => ?_) (fun e_ => ?_)
            · have hh := AA.out.2.2.2.2.2.2.2.1
              rw [e_] at hc
              have : W3.heap[Bp]? = _ := hh
              rw [hc] at this
              injection this with this
              injection this with _ this
              cases this
            · obtain ⟨q2, hq2, cells2, hc2⟩ := ((Kd.R_bound AA.out.2.2.2.1).1 k e_).2.2.2
              have : W3.heap[k]? = _ := hc2
              rw [hc] at this
              injection this with this
              injection this with _ this
              subst this
              simp [rowK, Kd.iso, Kd.pair, Kd.int, Kd.string, Kd.slice, Kd.scalar] at hq2
          rw [← hW4]
          have F4 : Frame w W4 Bp (.slice A3 s.rs.length c3) (.slice A9 (s.rs.length + 1) c9) := by
            refine Frame.before (H2.out.1.trans (HB3.out.1.mono H2.out.1.size)) ⟨fun k h1 h2 h3 => keep k h1 h2 h3, fun q hq => ?_⟩
            have e0 : (Value.slice A9 (s.rs.length + 1) c9).ownBlock = (Value.slice A9 (s.rs ++ [r]).length c9).ownBlock := by cases A9 <;> rfl
            rw [e0] at hq
            rcases H9.out.2.2.2.1 with h | ⟨b_, h, hle⟩
            · rw [h] at hq; exact .inl hq
            · rw [h] at hq; injection hq with hq; rw [← hq]; exact .inr hle
          have HF4 := Aside0.mk F4
          clear F4
          have H4 := Aside0.mk (And.intro hb4 (And.intro hR4 (And.intro bel4 (And.intro hbl4 hF4))))
          clear hW4 keep hb4 hR4 bel4 w23 hF4 p0 t0 t1 t2 t3 t4 t5 z0 fz9 nw pa HL0 HL1
          have l0 : W4.cell? ⟨w.heap.size, 0, none⟩ = some _ := (blk_cell hbl4 0).trans rfl
          have l1 : W4.cell? ⟨w.heap.size, 1, none⟩ = some _ := (blk_cell hbl4 1).trans rfl
          clear hbl4
          have hlz : (5 : Int) < (l.length : Int) := by have := HL.out; omega
          have hl9 : l.length ≤ 9223372036854775807 := Kd.C_max (Kd.R_reads' H4.out.2.2.2.2).2.2
          obtain ⟨x, hx⟩ : ∃ x, x = l.getD 1 ByteArray.empty := ⟨_, rfl⟩
          have hx1 : l[1]? = some x := by rw [hx, List.getD_eq_getElem?_getD, List.getElem?_eq_getElem (by have := HL.out; omega)]; rfl
          have N4 := Aside0.mk (named_same A c l ⟨#[44, 32, 70, 105, 114, 115, 116, 62]⟩ x W4 (Kd.R_reads' H4.out.2.2.2.2).2.2 hx1 (hsz x (List.mem_of_getElem? hx1)))
          have HX := Aside0.mk hx
          clear hx hx1
          cases hn : namedS x ⟨#[44, 32, 70, 105, 114, 115, 116, 62]⟩ with
          | false =>
            rw [hn] at N4
            have ht2 := HT1.out
            rw [← HX.out, hn] at ht2
            simp only [Bool.false_eq_true, ↓reduceIte] at ht2
            subst ht2
            clear hn
            go_wp2_with (go_at_call 100; with_reducible refine N4.out.mono ?_; rintro e_ w5 ⟨rfl, rfl⟩)
            go_ret2
            exact ⟨rfl, H4.out.2.2.1, _, ⟨H4.out.1, H4.out.2.1⟩, HF4.out⟩
          | true =>
            rw [hn] at N4
            have ht2 := HT1.out
            rw [← HX.out, hn] at ht2
            simp only [↓reduceIte] at ht2
            obtain ⟨s5, hs5⟩ : ∃ s5, s5 = l.getD 5 ByteArray.empty := ⟨_, rfl⟩
            rw [← hs5] at ht2
            subst ht2
            clear hn
            obtain ⟨ad, e4, hc50⟩ := Kd.at_string (Kd.R_reads' H4.out.2.2.2.2).2.2 5 (by omega) (by omega)
            have x5 : W4.cell? (ad.add 5) = some (.string s5) := by
              rw [show (5 : Int).toNat = 5 from rfl] at hc50
              rw [hc50, hs5]; rfl
            simp only [Nat.reduceEqDiff, Go.Addr.add, ↓reduceIte] at x5
            have h5e : (s5.toList == []) = (s5.data.toList == []) := by rw [ByteArray.toList_eq]
            have q1 : W4.cell? ⟨Bp, 1, none⟩ = some _ := (blk_cell H4.out.1 1).trans rfl
            have q2 : W4.cell? ⟨Bp, 2, none⟩ = some _ := (blk_cell H4.out.1 2).trans rfl
            have q3 : W4.cell? ⟨Bp, 3, none⟩ = some _ := (blk_cell H4.out.1 3).trans rfl
            have z1 := blk_frozen H4.out.1 1
            have z2 := blk_frozen H4.out.1 2
            have z3 := blk_frozen H4.out.1 3
            have nbl : w.heap.size ≠ Bp := by omega
            have nad : ad.block ≠ Bp := by
              intro e_
              have hh := (Kd.R_bound H4.out.2.2.2.2).1 ad.block (by rw [e4]; rfl)
              obtain ⟨q, hq, cells, hc⟩ := hh.2.2.2
              rw [e_, H4.out.1] at hc
              injection hc with hc
              injection hc with _ hc
              rcases List.mem_cons.1 hq with h | h
              · rw [h] at hc; cases hc
              · cases h
            subst e4
            clear hc50 hs5
            go_wp2_with (go_at_call 100; with_reducible refine N4.out.mono ?_; rintro e_ w5 ⟨rfl, rfl⟩)
            go_region
            all_goals
              go_wp2_with fail
              go_ret2
              have hie : s5.data.isEmpty = (s5.data.toList == []) := by
                rw [← Array.isEmpty_toList]
                cases s5.data.toList <;> rfl
              have k1 := blk_set (blk_set (blk_set H4.out.1 1 (.bool true)) 2 (.int .i64 N)) 3 (.bool s5.data.isEmpty)
              have k2 := Kd.R_drew (Kd.R_far (p := ⟨Bp, 3, none⟩) (Kd.R_far (p := ⟨Bp, 2, none⟩) (Kd.R_far (p := ⟨Bp, 1, none⟩) H4.out.2.1 NB (.bool true)) NB (.int .i64 N)) NB (.bool s5.data.isEmpty))
              have k3 := (((H4.out.2.2.1.setCell (p := ⟨Bp, 1, none⟩) hbp (.bool true)).setCell (p := ⟨Bp, 2, none⟩) hbp (.int .i64 N)).setCell (p := ⟨Bp, 3, none⟩) hbp (.bool s5.data.isEmpty))
              refine ⟨rfl, below_drew1 k3, .slice A9 (s.rs.length + 1) c9, ⟨?hb1, k2⟩, ⟨?hf1, HF4.out.2⟩⟩
              case hf1 =>
                intro k h1 h2 h3
                exact (Go.RowKit.Below.heap_setCell _ ⟨Bp, 3, none⟩ _ k h2).trans ((Go.RowKit.Below.heap_setCell _ ⟨Bp, 2, none⟩ _ k h2).trans ((Go.RowKit.Below.heap_setCell _ ⟨Bp, 1, none⟩ _ k h2).trans (HF4.out.1 k h1 h2 h3)))
              case hb1 =>
                rw [hie] at k1 ⊢
                exact k1
      · have hpo : s.rs = pre ++ [own] := by rw [hpo0]; simp
        have HN := Aside0.mk (by rw [hpo]; simp : s.rs.length = pre.length + 1)
        have hlt : pre.length < s.rs.length := by rw [HN.out]; omega
        obtain ⟨g, cap, cur, vo, ev, hg, hgo, hgh, hcells, -⟩ := rows_at H2.out.2.2.1 pre.length hlt
        injection ev with ev1 ev2 ev3
        subst ev1
        have hown : s.rs[pre.length]'hlt = own := by simp [hpo]
        rw [hown] at hcells
        have o1 := hcells 1 _ rfl
        obtain ⟨n, hnn⟩ : ∃ n, n = pre.length := ⟨_, rfl⟩
        rw [← hnn] at o1
        have hn : s.rs.length = n + 1 := by rw [hnn]; exact HN.out
        rw [show 6 * n + 1 = n * 6 + 1 by omega] at o1
        have n1 : (s.rs.length : Int) - 1 = (n : Int) := by omega
        have hnz : (n : Int) < (s.rs.length : Int) := by omega
        have hnz2 : n < s.rs.length := by omega
        have hnb : decide (0 < (s.rs.length : Int)) = true := decide_eq_true (by omega)
        have hnc : decide (0 < s.rs.length) = true := decide_eq_true (by omega)
        have hm : (match s.rs.getLast? with | none => false | some own => decide (r.first ≤ own.last)) = decide (r.first ≤ own.last) := by rw [hpo]; simp
        have ht1 := HT0.out
        rw [hm] at ht1
        have HNN := Aside0.mk hn
        clear hm hpo hpo0 hcells hown hnn HT0 hn ev2 ev3 HN
        by_cases hle : r.first ≤ own.last
        · have hleb : decide (r.first ≤ own.last) = true := decide_eq_true hle
          rw [hleb, if_pos rfl] at ht1
          subst ht1
          go_wp2_with fail
          go_quiet (fail)
          go_wp2_with fail
          go_quiet (fail)
          go_wp2_with fail
          go_ret2
          exact ⟨rfl, BEL2.out.trans ((DRW.out _ 0).mono (Nat.le_trans (Nat.le_trans hbp (Nat.le_of_lt hne.1)) BEL2.out.size)), PSB.out _ (DRW.out _ 0)⟩
        · have hleb : decide (r.first ≤ own.last) = false := decide_eq_false hle
          rw [hleb, if_neg (by decide)] at ht1
          have HT1 := Aside0.mk ht1
          clear ht1
          go_wp2_with fail
          go_quiet (fail)
          obtain ⟨W3, hW3⟩ : ∃ W3, W3 = W2.drewN nq := ⟨_, rfl⟩
          have b3 : Go.RowKit.Below W2.heap.size W2 W3 := by rw [hW3]; exact pw_below_drewN (Go.RowKit.Below.refl _ _) _
          rw [← hW3]
          have HB3 := Aside0.mk (And.intro b3 (by rw [hW3]; simp : W3.heap.size = W2.heap.size))
          clear b3 hW3
          have up : ∀ (q : Addr) (u : Value), W2.cell? q = some u → W3.cell? q = some u := fun q u h => (HB3.out.1.cell (World.block_lt_of_cell? W2 q h)).trans h
          replace p0 := up _ _ p0
          replace t0 := up _ _ t0
          replace t1 := up _ _ t1
          replace t2 := up _ _ t2
          replace t3 := up _ _ t3
          replace t4 := up _ _ t4
          replace t5 := up _ _ t5
          have HL0 := Aside0.mk (up _ _ l0)
          have HL1 := Aside0.mk (up _ _ l1)
          clear up l0 l1 p1 p2
          go_wp2_with fail
          have okk : ∀ k, (Value.slice (some ⟨g, 0, none⟩) s.rs.length c3).ownBlock = some k → k < w.heap.size := fun k hk => ((Kd.R_bound HP.out.2.1).1 k hk).2.2.1
          have a1 : rowK.M W3.drew base (fun k => w.heap.size ≤ k) r (rowCells r (.slice Ad r.dec.length cd)) := rowK_M.2 ⟨_, rfl, Kd.R_drew (Kd.R_below (Kd.R_lower (Kd.R_mono (Kd.R_bound H2.out.2.2.2.2.2.2.2) (fun k hk => Nat.le_trans HB0.out.1.size hk.2.1)) (Nat.le_trans (Nat.le_trans hbp (Nat.le_of_lt hne.1)) HB0.out.1.size)) HB3.out.1)⟩
          have a2 : ∀ k, w.heap.size ≤ k → ok k ∧ some k ≠ (Value.slice (some ⟨g, 0, none⟩) s.rs.length c3).ownBlock := fun k hk => ⟨hfr k hk, fun e_ => by have := okk k e_.symm; omega⟩
          have a4 : Kd.R rowK 40 W3.drew base ok (.slice (some ⟨g, 0, none⟩) s.rs.length c3) s.rs := Kd.R_drew (Kd.R_below H2.out.2.2.1 HB3.out.1)
          have a5 : Go.RowKit.Below base w W3.drew := BEL2.out.trans ((HB3.out.1.mono (Nat.le_trans (Nat.le_trans hbp (Nat.le_of_lt hne.1)) H2.out.1.size)).trans (by apply below_drew1; exact Go.RowKit.Below.refl _ _))
          have a6 : base ≤ W3.drew.heap.size := Nat.le_trans (Nat.le_trans hbp (Nat.le_of_lt hne.1)) (Nat.le_trans H2.out.1.size HB3.out.1.size)
          have a3 : ∀ k, W3.drew.heap.size ≤ k → ok k := fun k hk => hfr k (by
            have h1 := Nat.le_trans H2.out.1.size HB3.out.1.size
            have h2 : W3.heap.size ≤ k := hk
            omega)
          have a7 : (s.rs.length + 1) * 80 ≤ 140737488355328 := by omega
          have hbW : W3.drew.heap[Bp]? = some _ := (HB3.out.1.block _ (blk_lt H2.out.2.1)).trans H2.out.2.1
          have nw : W3.heap.size ≠ Bp := by have h1 := Nat.le_trans H2.out.1.size HB3.out.1.size; omega
          have pa : ∀ o, (W3.alloc o).cell? ⟨Bp, 0, none⟩ = some (.slice (some ⟨g, 0, none⟩) s.rs.length c3) := fun o => cell_grows9 p0
          have AA := Aside0.mk (And.intro a1 (And.intro a2 (And.intro a3 (And.intro a4 (And.intro a5 (And.intro a6 (And.intro a7 (And.intro hbW okk))))))))
          clear okk a1 a2 a3 a4 a5 a6 a7 hbW
          go_region_law (refine Kd.R_append_step (W := W3.drew) rowK (w0 := w) base (by rfl) (.tmp 66) (.tmp 68) 59 40 (.agg #[.int .i64 0, .int .i64 0, .string ⟨#[]⟩, .int .i64 0, .string ⟨#[]⟩, .slice none 0 0]) 80 rfl Tryz.underlying59 info40 rfl (by decide) (by omega) (.slice (some ⟨g, 0, none⟩) s.rs.length c3) s.rs r (rowCells r (.slice Ad r.dec.length cd)) ok (fun k => w.heap.size ≤ k) (by first | rfl | simp [Act.eval, Act.put]) (by first | rfl | simp [Act.eval, Act.put]) AA.out.1 AA.out.2.1 AA.out.2.2.1 AA.out.2.2.2.1 AA.out.2.2.2.2.1 AA.out.2.2.2.2.2.1 AA.out.2.2.2.2.2.2.1 ?_; intro v9 w9 ho9 hb9 hg9 hat9; obtain ⟨A9, c9, rfl⟩ := Kd.R_slice ho9; have hbp9 : w9.heap[Bp]? = some _ := (hg9.block _ (blk_lt AA.out.2.2.2.2.2.2.2.1) (fun e_ => absurd (H2.out.2.2.1.1 Bp e_.symm) hok)).trans AA.out.2.2.2.2.2.2.2.1; have fz9 := blk_frozen hbp9 0; have z0 : w9.cell? ⟨Bp, 0, none⟩ = some _ := (blk_cell hbp9 0).trans rfl; have H9 := Aside0.mk (And.intro ho9 (And.intro hb9 (And.intro hg9 (And.intro hat9 hbp9)))); clear ho9 hb9 hg9 hat9 hbp9)
          all_goals
            have NB : ∀ k, ok k → k ≠ Bp := fun k hk e_ => hok (e_ ▸ hk)
            obtain ⟨W4, hW4⟩ : ∃ W4, W4 = w9.setCell ⟨Bp, 0, none⟩ (.slice A9 (s.rs.length + 1) c9) := ⟨_, rfl⟩
            have keep : ∀ k, k < W3.heap.size → k ≠ Bp → (Value.slice (some ⟨g, 0, none⟩) s.rs.length c3).ownBlock ≠ some k → W4.heap[k]? = W3.heap[k]? := fun k h1 h2 h3 => by
              rw [hW4]
              exact (Go.RowKit.Below.heap_setCell _ ⟨Bp, 0, none⟩ _ _ h2).trans (H9.out.2.2.1.block k h1 (fun e_ => h3 e_.symm))
            have hb4 : W4.heap[Bp]? = some (.cells #[.slice A9 (s.rs.length + 1) c9, .bool s.op, .int .i64 s.ln, .bool s.pl] 133 (0, 0)) := by rw [hW4]; exact blk_set H9.out.2.2.2.2 0 _
            have hR4 : Kd.R rowK 40 W4 base ok (.slice A9 (s.rs.length + 1) c9) (s.rs ++ [r]) := by
              have h := Kd.R_far (p := ⟨Bp, 0, none⟩) H9.out.1 NB (.slice A9 (s.rs.length + 1) c9)
              have e_ : (s.rs ++ [r]).length = s.rs.length + 1 := by simp
              rw [e_] at h
              rw [hW4]; exact h
            have bel4 : Go.RowKit.Below base w W4 := by rw [hW4]; exact H9.out.2.1.setCell (p := ⟨Bp, 0, none⟩) hbp _
            have w23 : w.heap.size < W3.heap.size := Nat.lt_of_lt_of_le hne.2 (Nat.le_trans (by have := blk_lt H2.out.2.2.2.2.2.2.1; omega) HB3.out.1.size)
            have hbl4 : W4.heap[w.heap.size]? = some (.cells #[.int .i64 N, .slice A l.length c] 138 (0, 0)) := (keep _ w23 (by omega) (fun e_ => by have := AA.out.2.2.2.2.2.2.2.2 _ e_; omega)).trans ((HB3.out.1.block _ (by have := blk_lt H2.out.2.2.2.2.2.1; omega)).trans H2.out.2.2.2.2.2.1)
            have hF4 : Kd.R Kd.string 9 W4 b0 (fun _ => True) (.slice A l.length c) l := by
              have h1 := Kd.R_bound (Kd.R_below HF.out H2.out.1)
              refine Kd.R_mono (Kd.R_step (Kd.R_mono (Kd.R_bound (Kd.R_below HF.out (H2.out.1.trans (HB3.out.1.mono H2.out.1.size)))) (fun k hk => hk.2.2)) (fun k hk hlt => ?_)) (fun _ _ => trivial)
              obtain ⟨_, q, hq, cells, hc⟩ := hk
              have hq9 : q = 9 := by
                rcases List.mem_cons.1 hq with h | h
                · exact h
                · cases h
              subst hq9
              refine keep k hlt (fun e_ => ?_) (fun e_ => ?_)
              · have hh := AA.out.2.2.2.2.2.2.2.1
                rw [e_] at hc
                have : W3.heap[Bp]? = _ := hh
                rw [hc] at this
                injection this with this
                injection this with _ this
                cases this
              · obtain ⟨q2, hq2, cells2, hc2⟩ := ((Kd.R_bound AA.out.2.2.2.1).1 k e_).2.2.2
                have : W3.heap[k]? = _ := hc2
                rw [hc] at this
                injection this with this
                injection this with _ this
                subst this
                simp [rowK, Kd.iso, Kd.pair, Kd.int, Kd.string, Kd.slice, Kd.scalar] at hq2
            rw [← hW4]
            have F4 : Frame w W4 Bp (.slice (some ⟨g, 0, none⟩) s.rs.length c3) (.slice A9 (s.rs.length + 1) c9) := by
              refine Frame.before (H2.out.1.trans (HB3.out.1.mono H2.out.1.size)) ⟨fun k h1 h2 h3 => keep k h1 h2 h3, fun q hq => ?_⟩
              have e0 : (Value.slice A9 (s.rs.length + 1) c9).ownBlock = (Value.slice A9 (s.rs ++ [r]).length c9).ownBlock := by cases A9 <;> rfl
              rw [e0] at hq
              rcases H9.out.2.2.2.1 with h | ⟨b_, h, hle⟩
              · rw [h] at hq; exact .inl hq
              · rw [h] at hq; injection hq with hq; rw [← hq]; exact .inr hle
            have HF4 := Aside0.mk F4
            clear F4
            have H4 := Aside0.mk (And.intro hb4 (And.intro hR4 (And.intro bel4 (And.intro hbl4 hF4))))
            clear hW4 keep hb4 hR4 bel4 w23 hF4 p0 t0 t1 t2 t3 t4 t5 z0 fz9 nw pa HL0 HL1
            have l0 : W4.cell? ⟨w.heap.size, 0, none⟩ = some _ := (blk_cell hbl4 0).trans rfl
            have l1 : W4.cell? ⟨w.heap.size, 1, none⟩ = some _ := (blk_cell hbl4 1).trans rfl
            clear hbl4
            have hlz : (5 : Int) < (l.length : Int) := by have := HL.out; omega
            have hl9 : l.length ≤ 9223372036854775807 := Kd.C_max (Kd.R_reads' H4.out.2.2.2.2).2.2
            obtain ⟨x, hx⟩ : ∃ x, x = l.getD 1 ByteArray.empty := ⟨_, rfl⟩
            have hx1 : l[1]? = some x := by rw [hx, List.getD_eq_getElem?_getD, List.getElem?_eq_getElem (by have := HL.out; omega)]; rfl
            have N4 := Aside0.mk (named_same A c l ⟨#[44, 32, 70, 105, 114, 115, 116, 62]⟩ x W4 (Kd.R_reads' H4.out.2.2.2.2).2.2 hx1 (hsz x (List.mem_of_getElem? hx1)))
            have HX := Aside0.mk hx
            clear hx hx1
            cases hn : namedS x ⟨#[44, 32, 70, 105, 114, 115, 116, 62]⟩ with
            | false =>
              rw [hn] at N4
              have ht2 := HT1.out
              rw [← HX.out, hn] at ht2
              simp only [Bool.false_eq_true, ↓reduceIte] at ht2
              subst ht2
              clear hn
              go_wp2_with (go_at_call 100; with_reducible refine N4.out.mono ?_; rintro e_ w5 ⟨rfl, rfl⟩)
              go_ret2
              exact ⟨rfl, H4.out.2.2.1, _, ⟨H4.out.1, H4.out.2.1⟩, HF4.out⟩
            | true =>
              rw [hn] at N4
              have ht2 := HT1.out
              rw [← HX.out, hn] at ht2
              simp only [↓reduceIte] at ht2
              obtain ⟨s5, hs5⟩ : ∃ s5, s5 = l.getD 5 ByteArray.empty := ⟨_, rfl⟩
              rw [← hs5] at ht2
              subst ht2
              clear hn
              obtain ⟨ad, e4, hc50⟩ := Kd.at_string (Kd.R_reads' H4.out.2.2.2.2).2.2 5 (by omega) (by omega)
              have x5 : W4.cell? (ad.add 5) = some (.string s5) := by
                rw [show (5 : Int).toNat = 5 from rfl] at hc50
                rw [hc50, hs5]; rfl
              simp only [Nat.reduceEqDiff, Go.Addr.add, ↓reduceIte] at x5
              have h5e : (s5.toList == []) = (s5.data.toList == []) := by rw [ByteArray.toList_eq]
              have q1 : W4.cell? ⟨Bp, 1, none⟩ = some _ := (blk_cell H4.out.1 1).trans rfl
              have q2 : W4.cell? ⟨Bp, 2, none⟩ = some _ := (blk_cell H4.out.1 2).trans rfl
              have q3 : W4.cell? ⟨Bp, 3, none⟩ = some _ := (blk_cell H4.out.1 3).trans rfl
              have z1 := blk_frozen H4.out.1 1
              have z2 := blk_frozen H4.out.1 2
              have z3 := blk_frozen H4.out.1 3
              have nbl : w.heap.size ≠ Bp := by omega
              have nad : ad.block ≠ Bp := by
                intro e_
                have hh := (Kd.R_bound H4.out.2.2.2.2).1 ad.block (by rw [e4]; rfl)
                obtain ⟨q, hq, cells, hc⟩ := hh.2.2.2
                rw [e_, H4.out.1] at hc
                injection hc with hc
                injection hc with _ hc
                rcases List.mem_cons.1 hq with h | h
                · rw [h] at hc; cases hc
                · cases h
              subst e4
              clear hc50 hs5
              go_wp2_with (go_at_call 100; with_reducible refine N4.out.mono ?_; rintro e_ w5 ⟨rfl, rfl⟩)
              go_region
              all_goals
                go_wp2_with fail
                go_ret2
                have hie : s5.data.isEmpty = (s5.data.toList == []) := by
                  rw [← Array.isEmpty_toList]
                  cases s5.data.toList <;> rfl
                have k1 := blk_set (blk_set (blk_set H4.out.1 1 (.bool true)) 2 (.int .i64 N)) 3 (.bool s5.data.isEmpty)
                have k2 := Kd.R_drew (Kd.R_far (p := ⟨Bp, 3, none⟩) (Kd.R_far (p := ⟨Bp, 2, none⟩) (Kd.R_far (p := ⟨Bp, 1, none⟩) H4.out.2.1 NB (.bool true)) NB (.int .i64 N)) NB (.bool s5.data.isEmpty))
                have k3 := (((H4.out.2.2.1.setCell (p := ⟨Bp, 1, none⟩) hbp (.bool true)).setCell (p := ⟨Bp, 2, none⟩) hbp (.int .i64 N)).setCell (p := ⟨Bp, 3, none⟩) hbp (.bool s5.data.isEmpty))
                refine ⟨rfl, below_drew1 k3, .slice A9 (s.rs.length + 1) c9, ⟨?hb1, k2⟩, ⟨?hf1, HF4.out.2⟩⟩
                case hf1 =>
                  intro k h1 h2 h3
                  exact (Go.RowKit.Below.heap_setCell _ ⟨Bp, 3, none⟩ _ k h2).trans ((Go.RowKit.Below.heap_setCell _ ⟨Bp, 2, none⟩ _ k h2).trans ((Go.RowKit.Below.heap_setCell _ ⟨Bp, 1, none⟩ _ k h2).trans (HF4.out.1 k h1 h2 h3)))
                case hb1 =>
                  rw [hie] at k1 ⊢
                  exact k1
  · have heb : (e != 0) = true := bne_iff_ne.2 he
    have hts : t = (e, N, s) := by rw [HP.out.2.2.1]; unfold takeS; rw [if_pos he]
    subst hts
    clear h15
    go_wp2_with fail
    go_quiet (fail)
    go_wp2_with fail
    go_ret2
    exact ⟨rfl, BEL2.out.trans ((DRW.out _ 0).mono (Nat.le_trans (Nat.le_trans hbp (Nat.le_of_lt hne.1)) BEL2.out.size)), PSB.out _ (DRW.out _ 0)⟩
end Go.Proofs.YtebgebgkieglhaaGreatDoor.FieldW
end
section
/- unicode: what a line's row is, and what a file is read as. -/
namespace Go.Proofs.YtebgebgkieglhaaGreatDoor.FieldW
open Go.RowKit Go.Shelf Go.Lib Go.Proofs Go.Proofs.YtebgebgkieglhaaGreatDoorW.PrintWords Go.Proofs.YtebgebgkieglhaaGreatDoorW.PrintLast Go.Proofs.YtebgebgkieglhaaGreatDoorW.PrintMore Go.Proofs.YtebgebgkieglhaaGreatDoor.PRef
set_option linter.unusedVariables false
set_option linter.unusedSimpArgs false

theorem rdOf_size (l : List ByteArray) (i : Int) (h : ∀ x ∈ l, x.size ≤ 1000000) : (rdOf ByteArray.empty l i).size ≤ 1000000 := by
  unfold rdOf
  rw [List.getD_eq_getElem?_getD]
  cases hq : l[i.toNat]? with
  | none => show (0 : Nat) ≤ 1000000; omega
  | some x => exact h x (List.mem_of_getElem? hq)
theorem decomp_some (x : ByteArray) (h : x.size ≤ 1000000) : ∃ t, Go.Proofs.YtebgebgkieglhaaGreatDoor.PU.unicode_decomp.f x = some t := by
  unfold Go.Proofs.YtebgebgkieglhaaGreatDoor.PU.unicode_decomp.f
  simp only [Go.Proofs.YtebgebgkieglhaaGreatDoor.PlugU.strings_HasPrefix.f, Go.Proofs.YtebgebgkieglhaaGreatDoor.PlugU.field_Sequence.f, Option.bind_some, if_pos h]
  repeat' split
  all_goals exact ⟨_, rfl⟩
theorem row_j0 (l : List ByteArray) (a b : Int) (c : Bool) (h15 : (l.length : Int) = 15) (h : ∀ x ∈ l, x.size ≤ 1000000) : ∃ t, Go.Proofs.YtebgebgkieglhaaGreatDoor.PU.unicode_row.j0 1 l a b c = some t := by
  rw [Go.Proofs.YtebgebgkieglhaaGreatDoor.PU.unicode_row.j0]
  obtain ⟨⟨t, e⟩, ht⟩ := decomp_some (rdOf ByteArray.empty l 5) (rdOf_size l 5 h)
  rw [ht, if_pos (by omega : (5 : Int) < l.length), Option.bind_some, if_pos (by omega : (2 : Int) < l.length), if_pos (by omega : (4 : Int) < l.length)]
  repeat' split
  all_goals exact ⟨_, rfl⟩
theorem row_some (l : List ByteArray) (h : ∀ x ∈ l, x.size ≤ 1000000) : ∃ t, Go.Proofs.YtebgebgkieglhaaGreatDoor.PU.unicode_row.f 1 l = some t := by
  unfold Go.Proofs.YtebgebgkieglhaaGreatDoor.PU.unicode_row.f
  by_cases h15 : (l.length : Int) = 15
  · have h3 := rdOf_size l 3 h
    obtain ⟨p, hp⟩ : ∃ p, Go.Proofs.YtebgebgkieglhaaGreatDoor.PlugU.field_Point.f (rdOf ByteArray.empty l 0) = some p := ⟨_, rfl⟩
    obtain ⟨q, hq⟩ : ∃ q, Go.Proofs.YtebgebgkieglhaaGreatDoor.PlugU.unicode_class.f (rdOf ByteArray.empty l 3) = some q := ⟨_, by unfold Go.Proofs.YtebgebgkieglhaaGreatDoor.PlugU.unicode_class.f; rw [if_pos h3]⟩
    obtain ⟨c, hc⟩ : ∃ c, Go.Proofs.YtebgebgkieglhaaGreatDoor.PlugU.unicode_category.f (rdOf ByteArray.empty l 2) = some c := ⟨_, rfl⟩
    obtain ⟨d, hl⟩ : ∃ d, Go.Proofs.YtebgebgkieglhaaGreatDoor.PlugU.unicode_letters.f (rdOf ByteArray.empty l 4) 65 90 = some d := ⟨_, by unfold Go.Proofs.YtebgebgkieglhaaGreatDoor.PlugU.unicode_letters.f; rw [if_pos (by decide)]⟩
    rw [if_pos h15, if_pos (by omega : (0 : Int) < l.length), hp, Option.bind_some, hq, Option.bind_some, hc, Option.bind_some, hl, Option.bind_some,
      if_pos (by omega : (3 : Int) < l.length), if_pos (by omega : (2 : Int) < l.length), if_pos (by omega : (4 : Int) < l.length)]
    repeat' split
    all_goals first | exact row_j0 l _ _ _ h15 h | exact ⟨_, rfl⟩
  · rw [if_neg h15]
    exact ⟨_, rfl⟩
/-- A line's row, and its error. -/
def rowS (l : List ByteArray) : URow × Int := match Go.Proofs.YtebgebgkieglhaaGreatDoor.PU.unicode_row.f 1 l with
  | some (a, b, c, d, e, f, g) => (⟨a, b, c, d, e, f⟩, g)
  | none => (⟨0, 0, ⟨#[]⟩, 0, ⟨#[]⟩, []⟩, 12)
theorem rowS_eq (l : List ByteArray) (h : ∀ x ∈ l, x.size ≤ 1000000) : Go.Proofs.YtebgebgkieglhaaGreatDoor.PU.unicode_row.f 1 l = some ((rowS l).1.first, (rowS l).1.last, (rowS l).1.gc, (rowS l).1.ccc, (rowS l).1.bidi, (rowS l).1.dec, (rowS l).2) := by
  obtain ⟨⟨a, b, c, d, e, f, g⟩, ht⟩ := row_some l h
  unfold rowS
  rw [ht]
theorem rowS_len (l : List ByteArray) (h : (rowS l).2 = 0) : l.length = 15 := by
  by_cases h15 : (l.length : Int) = 15
  · omega
  · unfold rowS Go.Proofs.YtebgebgkieglhaaGreatDoor.PU.unicode_row.f at h
    rw [if_neg h15] at h
    exact absurd h (by decide)
/-- The error of a file's lines and where it is, and what has been read. -/
def foldU : List (Nat × List ByteArray) → PSt → Int × Int × PSt
  | [], s => (0, 0, s)
  | (n, l) :: r, s => if (takeS s n l (rowS l).1 (rowS l).2).1 = 0 then foldU r (takeS s n l (rowS l).1 (rowS l).2).2.2 else takeS s n l (rowS l).1 (rowS l).2
theorem foldU_snoc : ∀ (pre : List (Nat × List ByteArray)) (s s1 : PSt) (n : Nat) (l : List ByteArray) (r : List (Nat × List ByteArray)), foldU pre s = (0, 0, s1) →
    foldU (pre ++ (n, l) :: r) s = if (takeS s1 n l (rowS l).1 (rowS l).2).1 = 0 then foldU r (takeS s1 n l (rowS l).1 (rowS l).2).2.2 else takeS s1 n l (rowS l).1 (rowS l).2
  | [], s, s1, n, l, r, h => by
    have : s = s1 := by injection h with _ h; injection h
    subst this
    rw [List.nil_append, foldU]
  | (m, x) :: pre, s, s1, n, l, r, h => by
    rw [foldU] at h
    rw [List.cons_append, foldU]
    split at h
    · rename_i h0
      rw [if_pos h0]
      exact foldU_snoc pre _ s1 n l r h
    · rename_i h0
      exact absurd (by rw [h]) h0
/-- A range that is open has its first row. -/
def okS (s : PSt) : Prop := s.op = true → s.rs ≠ []
theorem takeS_ok (s : PSt) (N : Int) (l : List ByteArray) (r : URow) (e : Int) (h : okS s) : okS (takeS s N l r e).2.2 ∧ (takeS s N l r e).2.2.rs.length ≤ s.rs.length + 1 := by
  have keep : okS s ∧ s.rs.length ≤ s.rs.length + 1 := ⟨h, by omega⟩
  unfold takeS
  split
  · exact keep
  · split
    · split
      · exact keep
      · split
        · refine ⟨(fun hh => by cases hh), ?_⟩
          show (s.rs.dropLast ++ [_]).length ≤ _
          simp
        · exact keep
    · cases hg : s.rs.getLast? with
      | none =>
        dsimp only
        rw [if_neg (by decide)]
        split
        · exact ⟨fun _ => by simp, by simp⟩
        · exact ⟨fun _ => by simp, by simp⟩
      | some own =>
        dsimp only
        split
        · exact keep
        · split
          · exact ⟨fun _ => by simp, by simp⟩
          · exact ⟨fun _ => by simp, by simp⟩
theorem foldU_ok : ∀ (l : List (Nat × List ByteArray)) (s : PSt), okS s → okS (foldU l s).2.2 ∧ (foldU l s).2.2.rs.length ≤ s.rs.length + l.length
  | [], s, h => ⟨h, by show s.rs.length ≤ _; omega⟩
  | (n, l) :: r, s, h => by
    have h1 := takeS_ok s n l (rowS l).1 (rowS l).2 h
    rw [foldU]
    split
    · have h2 := foldU_ok r _ h1.1
      exact ⟨h2.1, by rw [List.length_cons]; omega⟩
    · exact ⟨h1.1, by rw [List.length_cons]; omega⟩
def s0 : PSt := ⟨[], false, 0, false⟩
/-- What a file is read as: the rows, or the error and its line. -/
def parseU (b : List UInt8) : Option (List URow) × Int × Int :=
  let t := foldU (linesOf 0 (pieceB 10 ⟨b.toArray⟩)) s0
  if t.1 ≠ 0 then (none, t.1, t.2.1) else if t.2.2.op then (none, 14, t.2.2.ln) else (some t.2.2.rs, 0, 0)
end Go.Proofs.YtebgebgkieglhaaGreatDoor.FieldW
end
