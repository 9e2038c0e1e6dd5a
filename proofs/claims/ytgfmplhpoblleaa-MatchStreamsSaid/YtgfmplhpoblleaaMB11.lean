/- PFBx2, FailI, PFBx3, RefS, FailR. -/
import Derived.Test.YtgfmplhpoblleaaMB4
import Derived.Test.YtgfmplhpoblleaaMB5
import Derived.Test.YtgfmplhpoblleaaMB10
section
-- printed by the kit's print.py over several roots (printroots.sh): no hand has typed this
namespace Go.Proofs.Ytgfmplhpoblleaa.PFB
open Go.RowKit Go.Proofs.YtgfmplhpoblleaaW.PrintWords Go.Proofs.YtgfmplhpoblleaaW.PrintLast Go.Proofs.YtgfmplhpoblleaaW.PrintMore Go.Proofs.Ytgfmplhpoblleaa.PRank
attribute [local go_sem] max2_int min2_int max_two min_two max_three min_three max_four min_four   -- for this text's walks alone
set_option linter.unusedVariables false
set_option linter.unusedSimpArgs false

/-! ### paronymref22_Small: function 34 -/
def paronymref22_Small.l0 : Nat → List (List Int) → Int → Int → Option (Bool)
  | 0, _, _, _ => none
  | k + 1, x0, x1, x5 => if x5 < (x0.length : Int) then (if 0 ≤ x5 then (if ((rd_L1 x0 x5).length : Int) > x1 then (some false) else (paronymref22_Small.l0 k x0 x1 (wrap64 (x5 + 1)))) else (none)) else (some true)
def paronymref22_Small.f (k : Nat) (l0 : List (List Int)) (a1 : Int) : Option (Bool) := if (l0.length : Int) > a1 then (some false) else (paronymref22_Small.l0 k l0 a1 0)
theorem paronymref22_Small.mono_l : ∀ k, (∀ y0 y1 y2, LeO (paronymref22_Small.l0 k y0 y1 y2) (paronymref22_Small.l0 (k + 1) y0 y1 y2))
  | 0 => fun _ _ _ r h => by simp [paronymref22_Small.l0] at h
  | k + 1 => by
    have ih0 := paronymref22_Small.mono_l k
    · intro y0 y1 y2
      unfold paronymref22_Small.l0
      repeat' first
      | (with_reducible exact ih0 _ _ _)
      | (with_reducible exact LeO.refl _)
      | (with_reducible exact LeO.none _)
      | (with_reducible refine LeO.ite ?_ ?_)
      | (with_reducible refine LeO.bind ?_ (fun _ => ?_))
      | exact ih0 _ _ _
      | exact LeO.none _
      | refine LeO.ite ?_ ?_
      | refine LeO.bind ?_ (fun _ => ?_)
theorem paronymref22_Small.mono : ∀ a0 a1 k, LeO (paronymref22_Small.f k a0 a1) (paronymref22_Small.f (k + 1) a0 a1) := by
  intro a0 a1 k
  have ih0 := paronymref22_Small.mono_l k
  unfold paronymref22_Small.f
  repeat' first
      | (with_reducible exact ih0 _ _ _)
      | (with_reducible exact LeO.refl _)
      | (with_reducible exact LeO.none _)
      | (with_reducible refine LeO.ite ?_ ?_)
      | (with_reducible refine LeO.bind ?_ (fun _ => ?_))
      | exact ih0 _ _ _
      | exact LeO.none _
      | refine LeO.ite ?_ ?_
      | refine LeO.bind ?_ (fun _ => ?_)
set_option maxHeartbeats 8000000 in
set_option maxRecDepth 100000 in
theorem paronymref22_Small.calls (k : Nat) (A0 : Option Addr) (c0 : Nat) (l0 : List (List Int)) (a1 : Int) (r : Bool) (w : World) (hr0 : Kd.C (Kd.slice 3 (Kd.int .i64)) w A0 l0.length l0) (hc0 : l0.length ≤ c0) (h : paronymref22_Small.f k l0 a1 = some r) :
    Calls Try.prog 34 #[.slice A0 l0.length c0, .int .i64 a1] w fun e w' => e = .returned (.bool r) ∧ Drawn0 w w' := by
  have HR0 := Aside0.mk hr0
  have HC0 := Aside0.mk hc0
  clear hr0 hc0
  have H : (if (l0.length : Int) > a1 then (some false) else (paronymref22_Small.l0 k l0 a1 0)) = some r := h
  clear h
  by_cases c3 : (l0.length : Int) > a1
  · rw [if_pos c3] at H
    have c3b0 : decide (a1 < (l0.length : Int)) = true := decide_eq_true c3
    clear c3
    obtain rfl := Option.some.inj H
    go_enter Try.func34, Try.ntmps34
    go_wp2
    go_ret
    exact ⟨by first | rfl | (simp; done) | (simp [*]; done), by repeat (first | exact Drawn0.refl _ | apply Drawn0.step)⟩
  · rw [if_neg c3] at H
    have c3b0 : decide (a1 < (l0.length : Int)) = false := decide_eq_false c3
    clear c3
    have H' := Aside0.mk H
    clear H
    go_enter Try.func34, Try.ntmps34
    go_wp2
    go_loopg [5] k (fun kq v5 w' => ∃ (x5_1 : Int), v5 = .int .i64 x5_1 ∧ Aside0 (paronymref22_Small.l0 kq l0 a1 x5_1 = some r) ∧ Aside0 (kq ≤ k) ∧ Drawn0 w w')
    case atStart => exact ⟨(0), (by first | rfl | (simp; done) | (simp [*]; done)), H', ⟨Nat.le_refl _⟩, by repeat (first | exact Drawn0.refl _ | apply Drawn0.step)⟩
    case round =>
      clear H'
      try clear p2
      try clear c3
      try clear c3b0
      obtain ⟨x5_1, rfl, HA, HK1, ⟨m1, rfl⟩⟩ := hrel
      cases gk with
      | zero => exact absurd HA.out (by simp [paronymref22_Small.l0])
      | succ k1 =>
        have H := HA.out
        clear HA
        simp only [paronymref22_Small.l0] at H
        by_cases c4 : x5_1 < (l0.length : Int)
        · rw [if_pos c4] at H
          have c4b0 : decide (x5_1 < (l0.length : Int)) = true := decide_eq_true c4
          clear c4
          by_cases c5 : 0 ≤ x5_1
          · rw [if_pos c5] at H
            have c5b0 : decide (0 ≤ x5_1) = true := decide_eq_true c5
            clear c5
            by_cases c6 : ((rd_L1 l0 x5_1).length : Int) > a1
            · rw [if_pos c6] at H
              have c6b0 : decide (a1 < ((rd_L1 l0 x5_1).length : Int)) = true := decide_eq_true c6
              clear c6
              obtain rfl := Option.some.inj H
              have p101 : 0 ≤ (x5_1 : Int) := of_decide_eq_true (by first | (with_reducible assumption) | assumption)
              have q101 : x5_1 < (l0.length : Int) := of_decide_eq_true (by first | (with_reducible assumption) | assumption)
              obtain ⟨ad101, A101_0, c101_0, e101, hx101_0, hl101_0, hi101_0⟩ := at_L1 HR0.out x5_1 p101 q101
              cases e101
              have HR101_0 := Aside0.mk hi101_0
              have HC101_0 := Aside0.mk hl101_0
              clear hi101_0 hl101_0
              replace p101 := eq_true p101
              replace q101 := eq_true q101
              go_wp2
              go_ret
              exact ⟨by first | rfl | (simp; done) | (simp [*]; done), by repeat (first | exact Drawn0.refl _ | apply Drawn0.step)⟩
            · rw [if_neg c6] at H
              have c6b0 : decide (a1 < ((rd_L1 l0 x5_1).length : Int)) = false := decide_eq_false c6
              clear c6
              have H' := Aside0.mk H
              clear H
              have p101 : 0 ≤ (x5_1 : Int) := of_decide_eq_true (by first | (with_reducible assumption) | assumption)
              have q101 : x5_1 < (l0.length : Int) := of_decide_eq_true (by first | (with_reducible assumption) | assumption)
              obtain ⟨ad101, A101_0, c101_0, e101, hx101_0, hl101_0, hi101_0⟩ := at_L1 HR0.out x5_1 p101 q101
              cases e101
              have HR101_0 := Aside0.mk hi101_0
              have HC101_0 := Aside0.mk hl101_0
              clear hi101_0 hl101_0
              replace p101 := eq_true p101
              replace q101 := eq_true q101
              go_wp2
              go_roundg k1
              case measure => have := HK1.out; omega
              case rel => exact ⟨(wrap64 (x5_1 + 1)), (by first | rfl | (simp; done) | (simp [*]; done)), H', ⟨by have := HK1.out; omega⟩, by repeat (first | exact Drawn0.refl _ | apply Drawn0.step)⟩
          · rw [if_neg c5] at H
            exact absurd H (by simp)
        · rw [if_neg c4] at H
          have c4b0 : decide (x5_1 < (l0.length : Int)) = false := decide_eq_false c4
          clear c4
          obtain rfl := Option.some.inj H
          go_wp2
          go_ret
          exact ⟨by first | rfl | (simp; done) | (simp [*]; done), by repeat (first | exact Drawn0.refl _ | apply Drawn0.step)⟩

/-! ### paronymref22_Empty: function 35 -/
def paronymref22_Empty.l0 : Nat → List (List Int) → Int → Option (Bool)
  | 0, _, _ => none
  | k + 1, x0, x3 => if x3 < (x0.length : Int) then (if 0 ≤ x3 then (if ((rd_L1 x0 x3).length : Int) = 0 then (some true) else (paronymref22_Empty.l0 k x0 (wrap64 (x3 + 1)))) else (none)) else (some false)
def paronymref22_Empty.f (k : Nat) (l0 : List (List Int)) : Option (Bool) := paronymref22_Empty.l0 k l0 0
theorem paronymref22_Empty.mono_l : ∀ k, (∀ y0 y1, LeO (paronymref22_Empty.l0 k y0 y1) (paronymref22_Empty.l0 (k + 1) y0 y1))
  | 0 => fun _ _ r h => by simp [paronymref22_Empty.l0] at h
  | k + 1 => by
    have ih0 := paronymref22_Empty.mono_l k
    · intro y0 y1
      unfold paronymref22_Empty.l0
      repeat' first
      | (with_reducible exact ih0 _ _)
      | (with_reducible exact LeO.refl _)
      | (with_reducible exact LeO.none _)
      | (with_reducible refine LeO.ite ?_ ?_)
      | (with_reducible refine LeO.bind ?_ (fun _ => ?_))
      | exact ih0 _ _
      | exact LeO.none _
      | refine LeO.ite ?_ ?_
      | refine LeO.bind ?_ (fun _ => ?_)
theorem paronymref22_Empty.mono : ∀ a0 k, LeO (paronymref22_Empty.f k a0) (paronymref22_Empty.f (k + 1) a0) := by
  intro a0 k
  have ih0 := paronymref22_Empty.mono_l k
  unfold paronymref22_Empty.f
  repeat' first
      | (with_reducible exact ih0 _ _)
      | (with_reducible exact LeO.refl _)
      | (with_reducible exact LeO.none _)
      | (with_reducible refine LeO.ite ?_ ?_)
      | (with_reducible refine LeO.bind ?_ (fun _ => ?_))
      | exact ih0 _ _
      | exact LeO.none _
      | refine LeO.ite ?_ ?_
      | refine LeO.bind ?_ (fun _ => ?_)
set_option maxHeartbeats 8000000 in
set_option maxRecDepth 100000 in
theorem paronymref22_Empty.calls (k : Nat) (A0 : Option Addr) (c0 : Nat) (l0 : List (List Int)) (r : Bool) (w : World) (hr0 : Kd.C (Kd.slice 3 (Kd.int .i64)) w A0 l0.length l0) (hc0 : l0.length ≤ c0) (h : paronymref22_Empty.f k l0 = some r) :
    Calls Try.prog 35 #[.slice A0 l0.length c0] w fun e w' => e = .returned (.bool r) ∧ Drawn0 w w' := by
  have HR0 := Aside0.mk hr0
  have HC0 := Aside0.mk hc0
  clear hr0 hc0
  have H : (paronymref22_Empty.l0 k l0 0) = some r := h
  clear h
  have H' := Aside0.mk H
  clear H
  go_enter Try.func35, Try.ntmps35
  go_wp2
  go_loopg [3] k (fun kq v3 w' => ∃ (x3_1 : Int), v3 = .int .i64 x3_1 ∧ Aside0 (paronymref22_Empty.l0 kq l0 x3_1 = some r) ∧ Aside0 (kq ≤ k) ∧ Drawn0 w w')
  case atStart => exact ⟨(0), (by first | rfl | (simp; done) | (simp [*]; done)), H', ⟨Nat.le_refl _⟩, by repeat (first | exact Drawn0.refl _ | apply Drawn0.step)⟩
  case round =>
    clear H'
    obtain ⟨x3_1, rfl, HA, HK1, ⟨m1, rfl⟩⟩ := hrel
    cases gk with
    | zero => exact absurd HA.out (by simp [paronymref22_Empty.l0])
    | succ k1 =>
      have H := HA.out
      clear HA
      simp only [paronymref22_Empty.l0] at H
      by_cases c2 : x3_1 < (l0.length : Int)
      · rw [if_pos c2] at H
        have c2b0 : decide (x3_1 < (l0.length : Int)) = true := decide_eq_true c2
        clear c2
        by_cases c3 : 0 ≤ x3_1
        · rw [if_pos c3] at H
          have c3b0 : decide (0 ≤ x3_1) = true := decide_eq_true c3
          clear c3
          by_cases c4 : ((rd_L1 l0 x3_1).length : Int) = 0
          · rw [if_pos c4] at H
            have c4b0 : (((rd_L1 l0 x3_1).length : Int) == 0) = true := beq_iff_eq.mpr c4
            have c4b1 : (((rd_L1 l0 x3_1).length : Int) != 0) = false := bne_eq_false_iff_eq.mpr c4
            clear c4
            obtain rfl := Option.some.inj H
            have p102 : 0 ≤ (x3_1 : Int) := of_decide_eq_true (by first | (with_reducible assumption) | assumption)
            have q102 : x3_1 < (l0.length : Int) := of_decide_eq_true (by first | (with_reducible assumption) | assumption)
            obtain ⟨ad102, A102_0, c102_0, e102, hx102_0, hl102_0, hi102_0⟩ := at_L1 HR0.out x3_1 p102 q102
            cases e102
            have HR102_0 := Aside0.mk hi102_0
            have HC102_0 := Aside0.mk hl102_0
            clear hi102_0 hl102_0
            replace p102 := eq_true p102
            replace q102 := eq_true q102
            go_wp2
            go_ret
            exact ⟨by first | rfl | (simp; done) | (simp [*]; done), by repeat (first | exact Drawn0.refl _ | apply Drawn0.step)⟩
          · rw [if_neg c4] at H
            have c4b0 : (((rd_L1 l0 x3_1).length : Int) == 0) = false := beq_eq_false_iff_ne.mpr c4
            have c4b1 : (((rd_L1 l0 x3_1).length : Int) != 0) = true := bne_iff_ne.mpr c4
            have c4b2 : ¬ ((rd_L1 l0 x3_1) = []) := fun h_ => c4 (by rw [h_]; rfl)
            have H' := Aside0.mk H
            clear H
            have p102 : 0 ≤ (x3_1 : Int) := of_decide_eq_true (by first | (with_reducible assumption) | assumption)
            have q102 : x3_1 < (l0.length : Int) := of_decide_eq_true (by first | (with_reducible assumption) | assumption)
            obtain ⟨ad102, A102_0, c102_0, e102, hx102_0, hl102_0, hi102_0⟩ := at_L1 HR0.out x3_1 p102 q102
            cases e102
            have HR102_0 := Aside0.mk hi102_0
            have HC102_0 := Aside0.mk hl102_0
            clear hi102_0 hl102_0
            replace p102 := eq_true p102
            replace q102 := eq_true q102
            go_wp2
            go_roundg k1
            case measure => have := HK1.out; omega
            case rel => exact ⟨(wrap64 (x3_1 + 1)), (by first | rfl | (simp; done) | (simp [*]; done)), H', ⟨by have := HK1.out; omega⟩, by repeat (first | exact Drawn0.refl _ | apply Drawn0.step)⟩
        · rw [if_neg c3] at H
          exact absurd H (by simp)
      · rw [if_neg c2] at H
        have c2b0 : decide (x3_1 < (l0.length : Int)) = false := decide_eq_false c2
        clear c2
        obtain rfl := Option.some.inj H
        go_wp2
        go_ret
        exact ⟨by first | rfl | (simp; done) | (simp [*]; done), by repeat (first | exact Drawn0.refl _ | apply Drawn0.step)⟩



/-! ### paronymref22_Find: function 82 -/
def paronymref22_Find.l0 : Nat → List (List Int) → List Int → Int → Option (Int)
  | 0, _, _, _ => none
  | k + 1, x0, x1, x5 => if x5 < (x0.length : Int) then (if 0 ≤ x5 then ((paronymref01_Same.f k (rd_L1 x0 x5) x1).bind fun t109 => (if t109 = true then (some x5) else (paronymref22_Find.l0 k x0 x1 (wrap64 (x5 + 1))))) else (none)) else (some (-1))
def paronymref22_Find.f (k : Nat) (l0 : List (List Int)) (l1 : List Int) : Option (Int) := paronymref22_Find.l0 k l0 l1 0
theorem paronymref22_Find.mono_l : ∀ k, (∀ y0 y1 y2, LeO (paronymref22_Find.l0 k y0 y1 y2) (paronymref22_Find.l0 (k + 1) y0 y1 y2))
  | 0 => fun _ _ _ r h => by simp [paronymref22_Find.l0] at h
  | k + 1 => by
    have ih0 := paronymref22_Find.mono_l k
    · intro y0 y1 y2
      unfold paronymref22_Find.l0
      repeat' first
      | (with_reducible exact ih0 _ _ _)
      | (with_reducible exact paronymref01_Same.mono _ _ _)
      | (with_reducible exact LeO.refl _)
      | (with_reducible exact LeO.none _)
      | (with_reducible refine LeO.ite ?_ ?_)
      | (with_reducible refine LeO.bind ?_ (fun _ => ?_))
      | exact ih0 _ _ _
      | exact paronymref01_Same.mono _ _ _
      | exact LeO.none _
      | refine LeO.ite ?_ ?_
      | refine LeO.bind ?_ (fun _ => ?_)
theorem paronymref22_Find.mono : ∀ a0 a1 k, LeO (paronymref22_Find.f k a0 a1) (paronymref22_Find.f (k + 1) a0 a1) := by
  intro a0 a1 k
  have ih0 := paronymref22_Find.mono_l k
  unfold paronymref22_Find.f
  repeat' first
      | (with_reducible exact ih0 _ _ _)
      | (with_reducible exact paronymref01_Same.mono _ _ _)
      | (with_reducible exact LeO.refl _)
      | (with_reducible exact LeO.none _)
      | (with_reducible refine LeO.ite ?_ ?_)
      | (with_reducible refine LeO.bind ?_ (fun _ => ?_))
      | exact ih0 _ _ _
      | exact paronymref01_Same.mono _ _ _
      | exact LeO.none _
      | refine LeO.ite ?_ ?_
      | refine LeO.bind ?_ (fun _ => ?_)
set_option maxHeartbeats 8000000 in
set_option maxRecDepth 100000 in
theorem paronymref22_Find.calls (k : Nat) (A0 : Option Addr) (c0 : Nat) (l0 : List (List Int)) (A1 : Option Addr) (c1 : Nat) (l1 : List Int) (r : Int) (w : World) (hr0 : Kd.C (Kd.slice 3 (Kd.int .i64)) w A0 l0.length l0) (hc0 : l0.length ≤ c0) (hr1 : Kd.C (Kd.int .i64) w A1 l1.length l1) (hc1 : l1.length ≤ c1) (h : paronymref22_Find.f k l0 l1 = some r) :
    Calls Try.prog 82 #[.slice A0 l0.length c0, .slice A1 l1.length c1] w fun e w' => e = .returned (.int .i64 r) ∧ Drawn0 w w' := by
  have HR0 := Aside0.mk hr0
  have HC0 := Aside0.mk hc0
  clear hr0 hc0
  have HR1 := Aside0.mk hr1
  have HC1 := Aside0.mk hc1
  clear hr1 hc1
  have H : (paronymref22_Find.l0 k l0 l1 0) = some r := h
  clear h
  have H' := Aside0.mk H
  clear H
  go_enter Try.func82, Try.ntmps82
  go_wp2
  go_loopg [5] k (fun kq v5 w' => ∃ (x5_1 : Int), v5 = .int .i64 x5_1 ∧ Aside0 (paronymref22_Find.l0 kq l0 l1 x5_1 = some r) ∧ Aside0 (kq ≤ k) ∧ Drawn0 w w')
  case atStart => exact ⟨(0), (by first | rfl | (simp; done) | (simp [*]; done)), H', ⟨Nat.le_refl _⟩, by repeat (first | exact Drawn0.refl _ | apply Drawn0.step)⟩
  case round =>
    clear H'
    try clear c1
    try clear p2
    obtain ⟨x5_1, rfl, HA, HK1, ⟨m1, rfl⟩⟩ := hrel
    cases gk with
    | zero => exact absurd HA.out (by simp [paronymref22_Find.l0])
    | succ k1 =>
      have H := HA.out
      clear HA
      simp only [paronymref22_Find.l0] at H
      by_cases c3 : x5_1 < (l0.length : Int)
      · rw [if_pos c3] at H
        have c3b0 : decide (x5_1 < (l0.length : Int)) = true := decide_eq_true c3
        clear c3
        by_cases c4 : 0 ≤ x5_1
        · rw [if_pos c4] at H
          have c4b0 : decide (0 ≤ x5_1) = true := decide_eq_true c4
          clear c4
          replace H := Option.bind_eq_some_iff.mp H
          obtain ⟨t109, A50, H⟩ := H
          replace H : (if t109 = true then (some x5_1) else (paronymref22_Find.l0 k1 l0 l1 (wrap64 (x5_1 + 1)))) = some r := H
          have A5 := Aside0.mk A50
          clear A50
          by_cases c6 : t109 = true
          · subst c6
            have H1 : (some x5_1) = some r := by rw [if_pos rfl] at H; exact H
            clear H
            have H := H1
            clear H1
            obtain rfl := Option.some.inj H
            have p108 : 0 ≤ (x5_1 : Int) := of_decide_eq_true (by first | (with_reducible assumption) | assumption)
            have q108 : x5_1 < (l0.length : Int) := of_decide_eq_true (by first | (with_reducible assumption) | assumption)
            obtain ⟨ad108, A108_0, c108_0, e108, hx108_0, hl108_0, hi108_0⟩ := at_L1 HR0.out x5_1 p108 q108
            cases e108
            have HR108_0 := Aside0.mk hi108_0
            have HC108_0 := Aside0.mk hl108_0
            clear hi108_0 hl108_0
            replace p108 := eq_true p108
            replace q108 := eq_true q108
            go_wp2_with (first | ((with_reducible refine gate_callee (f := 18) rfl ?_); refine goesL_ (some 17) rfl rfl Try.func18 (by kernel_rfl) rfl #[.slice A108_0 (rd_L1 l0 x5_1).length c108_0, .slice A1 l1.length c1] rfl (by (try simp only [List.map_toArray, List.map_cons, List.map_nil]); first | done | rfl | (simp only [List.length_drop, List.length_take]; rfl)) ?_; (with_reducible refine (paronymref01_Same.calls k1 _ _ (rd_L1 l0 x5_1) _ _ l1 true _ ?side1 ?side2 ?side3 ?side4 A5.out).mono ?_); (case side1 => repeat (first | exact HR108_0.out | (with_reducible refine Kd.C_alloc ?_ _) | (with_reducible refine Kd.C_drewN ?_ _) | (with_reducible refine Kd.C_drew ?_))); (case side2 => exact HC108_0.out); (case side3 => repeat (first | exact HR1.out | (with_reducible refine Kd.C_alloc ?_ _) | (with_reducible refine Kd.C_drewN ?_ _) | (with_reducible refine Kd.C_drew ?_))); (case side4 => exact HC1.out); rintro e w' ⟨rfl, ⟨nd, rfl⟩⟩; refine ⟨_, rfl, ?_⟩))
            go_ret
            exact ⟨by first | rfl | (simp; done) | (simp [*]; done), by repeat (first | exact Drawn0.refl _ | apply Drawn0.step)⟩
          · replace c6 := Bool.eq_false_iff.mpr c6
            subst c6
            have H1 : (paronymref22_Find.l0 k1 l0 l1 (wrap64 (x5_1 + 1))) = some r := by rw [if_neg (show ¬ (false = true) by decide)] at H; exact H
            clear H
            have H := H1
            clear H1
            have H' := Aside0.mk H
            clear H
            have p108 : 0 ≤ (x5_1 : Int) := of_decide_eq_true (by first | (with_reducible assumption) | assumption)
            have q108 : x5_1 < (l0.length : Int) := of_decide_eq_true (by first | (with_reducible assumption) | assumption)
            obtain ⟨ad108, A108_0, c108_0, e108, hx108_0, hl108_0, hi108_0⟩ := at_L1 HR0.out x5_1 p108 q108
            cases e108
            have HR108_0 := Aside0.mk hi108_0
            have HC108_0 := Aside0.mk hl108_0
            clear hi108_0 hl108_0
            replace p108 := eq_true p108
            replace q108 := eq_true q108
            go_wp2_with (first | ((with_reducible refine gate_callee (f := 18) rfl ?_); refine goesL_ (some 17) rfl rfl Try.func18 (by kernel_rfl) rfl #[.slice A108_0 (rd_L1 l0 x5_1).length c108_0, .slice A1 l1.length c1] rfl (by (try simp only [List.map_toArray, List.map_cons, List.map_nil]); first | done | rfl | (simp only [List.length_drop, List.length_take]; rfl)) ?_; (with_reducible refine (paronymref01_Same.calls k1 _ _ (rd_L1 l0 x5_1) _ _ l1 false _ ?side1 ?side2 ?side3 ?side4 A5.out).mono ?_); (case side1 => repeat (first | exact HR108_0.out | (with_reducible refine Kd.C_alloc ?_ _) | (with_reducible refine Kd.C_drewN ?_ _) | (with_reducible refine Kd.C_drew ?_))); (case side2 => exact HC108_0.out); (case side3 => repeat (first | exact HR1.out | (with_reducible refine Kd.C_alloc ?_ _) | (with_reducible refine Kd.C_drewN ?_ _) | (with_reducible refine Kd.C_drew ?_))); (case side4 => exact HC1.out); rintro e w' ⟨rfl, ⟨nd, rfl⟩⟩; refine ⟨_, rfl, ?_⟩))
            go_roundg k1
            case measure => have := HK1.out; omega
            case rel => exact ⟨(wrap64 (x5_1 + 1)), (by first | rfl | (simp; done) | (simp [*]; done)), H', ⟨by have := HK1.out; omega⟩, by repeat (first | exact Drawn0.refl _ | apply Drawn0.step)⟩
        · rw [if_neg c4] at H
          exact absurd H (by simp)
      · rw [if_neg c3] at H
        have c3b0 : decide (x5_1 < (l0.length : Int)) = false := decide_eq_false c3
        clear c3
        obtain rfl := Option.some.inj H
        go_wp2
        go_ret
        exact ⟨by first | rfl | (simp; done) | (simp [*]; done), by repeat (first | exact Drawn0.refl _ | apply Drawn0.step)⟩

/-! ### paronymref22_New: function 38 -/
mutual
def paronymref22_New.l0 : Nat → List (List Int) → List (List Int) → Int → Option ((List (List Int)))
  | 0, _, _, _ => none
  | k + 1, x0, x3, x4 => if x4 < (x0.length : Int) then (paronymref22_New.l1 k x0 x3 x4 1) else (some x3)
def paronymref22_New.l1 : Nat → List (List Int) → List (List Int) → Int → Int → Option ((List (List Int)))
  | 0, _, _, _, _ => none
  | k + 1, x0, x3, x4, x5 => if 0 ≤ x4 then (if x4 < (x0.length : Int) then (if x5 ≤ ((rd_L1 x0 x4).length : Int) then (if 0 ≤ x5 then ((paronymref22_Find.f k x3 ((rd_L1 x0 x4).take (x5 : Int).toNat)).bind fun t120 => (if t120 < 0 then (if x3.length < 5864062014805 then (paronymref22_New.l1 k x0 (x3 ++ [((rd_L1 x0 x4).take (x5 : Int).toNat)]) x4 (wrap64 (x5 + 1))) else (none)) else (paronymref22_New.l1 k x0 x3 x4 (wrap64 (x5 + 1))))) else (none)) else (paronymref22_New.l0 k x0 x3 (wrap64 (x4 + 1)))) else (none)) else (none)
end
def paronymref22_New.f (k : Nat) (l0 : List (List Int)) : Option ((List (List Int))) := paronymref22_New.l0 k l0 (([[]] : List (List Int))) 0
theorem paronymref22_New.mono_l : ∀ k, (∀ y0 y1 y2, LeO (paronymref22_New.l0 k y0 y1 y2) (paronymref22_New.l0 (k + 1) y0 y1 y2)) ∧ (∀ y0 y1 y2 y3, LeO (paronymref22_New.l1 k y0 y1 y2 y3) (paronymref22_New.l1 (k + 1) y0 y1 y2 y3))
  | 0 => ⟨fun _ _ _ r h => by simp [paronymref22_New.l0] at h, fun _ _ _ _ r h => by simp [paronymref22_New.l1] at h⟩
  | k + 1 => by
    obtain ⟨ih0, ih1⟩ := paronymref22_New.mono_l k
    refine ⟨?_, ?_⟩
    · intro y0 y1 y2
      unfold paronymref22_New.l0
      repeat' first
      | (with_reducible exact ih0 _ _ _)
      | (with_reducible exact ih1 _ _ _ _)
      | (with_reducible exact paronymref22_Find.mono _ _ _)
      | (with_reducible exact LeO.refl _)
      | (with_reducible exact LeO.none _)
      | (with_reducible refine LeO.ite ?_ ?_)
      | (with_reducible refine LeO.bind ?_ (fun _ => ?_))
      | exact ih0 _ _ _
      | exact ih1 _ _ _ _
      | exact paronymref22_Find.mono _ _ _
      | exact LeO.none _
      | refine LeO.ite ?_ ?_
      | refine LeO.bind ?_ (fun _ => ?_)
    · intro y0 y1 y2 y3
      unfold paronymref22_New.l1
      repeat' first
      | (with_reducible exact ih0 _ _ _)
      | (with_reducible exact ih1 _ _ _ _)
      | (with_reducible exact paronymref22_Find.mono _ _ _)
      | (with_reducible exact LeO.refl _)
      | (with_reducible exact LeO.none _)
      | (with_reducible refine LeO.ite ?_ ?_)
      | (with_reducible refine LeO.bind ?_ (fun _ => ?_))
      | exact ih0 _ _ _
      | exact ih1 _ _ _ _
      | exact paronymref22_Find.mono _ _ _
      | exact LeO.none _
      | refine LeO.ite ?_ ?_
      | refine LeO.bind ?_ (fun _ => ?_)
theorem paronymref22_New.mono : ∀ a0 k, LeO (paronymref22_New.f k a0) (paronymref22_New.f (k + 1) a0) := by
  intro a0 k
  obtain ⟨ih0, ih1⟩ := paronymref22_New.mono_l k
  unfold paronymref22_New.f
  repeat' first
      | (with_reducible exact ih0 _ _ _)
      | (with_reducible exact ih1 _ _ _ _)
      | (with_reducible exact paronymref22_Find.mono _ _ _)
      | (with_reducible exact LeO.refl _)
      | (with_reducible exact LeO.none _)
      | (with_reducible refine LeO.ite ?_ ?_)
      | (with_reducible refine LeO.bind ?_ (fun _ => ?_))
      | exact ih0 _ _ _
      | exact ih1 _ _ _ _
      | exact paronymref22_Find.mono _ _ _
      | exact LeO.none _
      | refine LeO.ite ?_ ?_
      | refine LeO.bind ?_ (fun _ => ?_)
set_option maxHeartbeats 8000000 in
set_option maxRecDepth 100000 in
theorem paronymref22_New.calls (k : Nat) (P0_ : Nat → Prop) (A0 : Option Addr) (c0 : Nat) (l0 : List (List Int)) (r : List (List Int)) (w : World) (hs0 : Kd.V (Kd.slice 3 (Kd.int .i64)) 23 w w.heap.size (fun k_ => P0_ k_) (.slice A0 l0.length c0) l0) (h : paronymref22_New.f k l0 = some r) :
    Calls Try.prog 38 #[.slice A0 l0.length c0] w fun e w' => ∃ v0_ : Value, e = .returned (v0_) ∧ Kd.N (Kd.slice 3 (Kd.int .i64)) 23 w' w.heap.size (fun k_ => (P0_ k_ ∨ w.heap.size ≤ k_)) v0_ r ∧ Below w.heap.size w w' := by
  have HO0 := Aside0.mk (show Kd.V (Kd.slice 3 (Kd.int .i64)) 23 w w.heap.size (fun k_ => (P0_ k_ ∨ w.heap.size ≤ k_)) (.slice A0 l0.length c0) l0 from Kd.V_mono hs0 (fun k_ hk => .inl hk))
  have HB := Aside0.mk (Below.refl w.heap.size w)
  have H : (paronymref22_New.l0 k l0 (([[]] : List (List Int))) 0) = some r := h
  clear h
  obtain ⟨y110, hy110⟩ : ∃ y_ : List (List Int), y_ = (([[]] : List (List Int))) := ⟨_, rfl⟩
  replace H : (paronymref22_New.l0 k l0 y110 0) = some r := by first | (rw [hy110]; with_reducible exact H) | (have H2_ := (Option.bind_some _ _).symm.trans H; rw [hy110]; with_reducible exact H2_) | (have H2_ := (Option.bind_some _ _).symm.trans H; with_reducible exact H2_) | with_reducible exact H | (rw [hy110]; exact H) | exact H
  have Ny110 := Aside0.mk hy110
  clear hy110
  have H' := Aside0.mk H
  clear H
  go_enter Try.func38, Try.ntmps38
  go_wp2_with (first | ((with_reducible refine gate_dst (N := 6) rfl ?_); refine Kd.N_lit (Kd.slice 3 (Kd.int .i64)) _ 23 ?hg (N' := 6) ?hd (xs := ([[]] : List (List Int))) (inner := [.slice none 0 0]) (ok := (fun k_ => (P0_ k_ ∨ w.heap.size ≤ k_))) (okp := (fun k_ => (P0_ k_ ∨ w.heap.size ≤ k_))) ?hr ?hp (fun _ hk => hk) ((show ∀ k_, w.heap.size ≤ k_ → (fun k_ => (P0_ k_ ∨ w.heap.size ≤ k_)) k_ from fun k_ hk => (.inr (Nat.le_trans (below_size (by repeat (first | (with_reducible first | exact HB.out | apply below_alloc | apply pw_below_drewN | apply below_drew1) | exact HB.out))) hk))) _ (Nat.le_refl _)) (Below.refl _ _) (Nat.le_refl _) (by simp) ?_; (case hd => rfl); (case hg => rfl); (case hr => first | (go_simp; done) | (go_simp; rfl)); (case hp => exact (Reps.one (show Kd.FK (Kd.slice 3 (Kd.int .i64)) _ _ [] [.slice none 0 0] from (Kd.FK_slice_mk (Nat.le_refl _) (Kd.F_nil _ _ _))) (Reps.none _ _))); intro v111 w2 ho3 hb hg_ hnew_; clear hg_ hnew_; (first | rw [← Ny110.out] at ho3 | (simp only [Int.reduceToNat] at ho3; rw [← Ny110.out] at ho3)); have n0_ := Aside0.mk (Kd.V_elder' (by (with_reducible repeat (first | apply Kd.V_alloc | apply Kd.V_drewN | apply Kd.V_drew)); exact HO0.out) (Kd.N_base ho3) hb); have n1_ := Aside0.mk (Kd.N_lower ho3 (below_size (by repeat (first | (with_reducible first | exact HB.out | apply below_alloc | apply pw_below_drewN | apply below_drew1) | exact HB.out)))); have n2_ := Aside0.mk (below_step (by repeat (first | (with_reducible first | exact HB.out | apply below_alloc | apply pw_below_drewN | apply below_drew1) | exact HB.out)) hb); clear HO0; clear HB; have HO0 := n0_; have HO112 := n1_; have HB := n2_; clear n0_ n1_ n2_; clear hb ho3))
  go_loopg [3, 4] k (fun kq v3 v4 w' => ∃ (x3_1 : List (List Int)) (x4_1 : Int), v4 = .int .i64 x4_1 ∧ Aside0 (paronymref22_New.l0 kq l0 x3_1 x4_1 = some r) ∧ Aside0 (kq ≤ k) ∧ Aside0 (Kd.V (Kd.slice 3 (Kd.int .i64)) 23 w' w.heap.size (fun k_ => (P0_ k_ ∨ w.heap.size ≤ k_) ∧ some k_ ≠ (v3 : Value).ownBlock) (.slice A0 l0.length c0) l0) ∧ Aside0 (Kd.N (Kd.slice 3 (Kd.int .i64)) 23 w' w.heap.size (fun k_ => (P0_ k_ ∨ w.heap.size ≤ k_)) v3 x3_1) ∧ Aside0 (Below w.heap.size w w'))
  case atStart => exact ⟨(y110), (0), (by first | rfl | (simp; done) | (simp [*]; done)), H', ⟨Nat.le_refl _⟩, ⟨by (with_reducible repeat (first | apply Kd.V_alloc | apply Kd.V_drewN | apply Kd.V_drew)); exact HO0.out⟩, ⟨by (with_reducible repeat (first | apply Kd.N_alloc | apply Kd.N_drewN | apply Kd.N_drew)); exact HO112.out⟩, ⟨by repeat (first | (with_reducible first | exact HB.out | apply below_alloc | apply pw_below_drewN | apply below_drew1) | exact HB.out)⟩⟩
  case round =>
    clear H'
    try clear p2
    try clear c3
    obtain ⟨x3_1, x4_1, rfl, HA, HK1, HO_0, HO_3, HB⟩ := hrel
    cases gk with
    | zero => exact absurd HA.out (by simp [paronymref22_New.l0])
    | succ k1 =>
      have H := HA.out
      clear HA
      simp only [paronymref22_New.l0] at H
      by_cases c4 : x4_1 < (l0.length : Int)
      · rw [if_pos c4] at H
        have c4b0 : decide (x4_1 < (l0.length : Int)) = true := decide_eq_true c4
        clear c4
        have H' := Aside0.mk H
        clear H
        go_wp2
        go_loopg [3, 5] k1 (fun kq v3 v5 w' => ∃ (x3_2 : List (List Int)) (x5_2 : Int), v5 = .int .i64 x5_2 ∧ Aside0 (paronymref22_New.l1 kq l0 x3_2 x4_1 x5_2 = some r) ∧ Aside0 (kq ≤ k1) ∧ Aside0 (Kd.V (Kd.slice 3 (Kd.int .i64)) 23 w' w.heap.size (fun k_ => (P0_ k_ ∨ w.heap.size ≤ k_) ∧ some k_ ≠ (v3 : Value).ownBlock) (.slice A0 l0.length c0) l0) ∧ Aside0 (Kd.N (Kd.slice 3 (Kd.int .i64)) 23 w' w.heap.size (fun k_ => (P0_ k_ ∨ w.heap.size ≤ k_)) v3 x3_2) ∧ Aside0 (Below w.heap.size w w'))
        case atStart => exact ⟨(x3_1), (1), (by first | rfl | (simp; done) | (simp [*]; done)), H', ⟨Nat.le_refl _⟩, ⟨by (with_reducible repeat (first | apply Kd.V_alloc | apply Kd.V_drewN | apply Kd.V_drew)); exact HO_0.out⟩, ⟨by (with_reducible repeat (first | apply Kd.N_alloc | apply Kd.N_drewN | apply Kd.N_drew)); exact HO_3.out⟩, ⟨by repeat (first | (with_reducible first | exact HB.out | apply below_alloc | apply pw_below_drewN | apply below_drew1) | exact HB.out)⟩⟩
        case round =>
          clear H'
          try clear p2
          try clear c3
          try clear c4
          try clear c4b0
          try clear p2
          obtain ⟨x3_2, x5_2, rfl, HA, HK2, HO_0, HO_3, HB⟩ := hrel
          cases gk with
          | zero => exact absurd HA.out (by simp [paronymref22_New.l1])
          | succ k2 =>
            have H := HA.out
            clear HA
            simp only [paronymref22_New.l1] at H
            by_cases c5 : 0 ≤ x4_1
            · rw [if_pos c5] at H
              have c5b0 : decide (0 ≤ x4_1) = true := decide_eq_true c5
              clear c5
              by_cases c6 : x4_1 < (l0.length : Int)
              · rw [if_pos c6] at H
                have c6b0 : decide (x4_1 < (l0.length : Int)) = true := decide_eq_true c6
                clear c6
                by_cases c7 : x5_2 ≤ ((rd_L1 l0 x4_1).length : Int)
                · rw [if_pos c7] at H
                  have c7b0 : decide (x5_2 ≤ ((rd_L1 l0 x4_1).length : Int)) = true := decide_eq_true c7
                  clear c7
                  by_cases c8 : 0 ≤ x5_2
                  · rw [if_pos c8] at H
                    have c8b0 := eq_true c8
                    have c8b1 : decide (0 ≤ x5_2) = true := decide_eq_true c8
                    clear c8
                    have c9b0 := eq_true (of_decide_eq_true (by first | (with_reducible assumption) | assumption) : x5_2 ≤ ((rd_L1 l0 x4_1).length : Int))
                    obtain ⟨y115, hy115⟩ : ∃ y_ : List Int, y_ = ((rd_L1 l0 x4_1).take (x5_2 : Int).toNat) := ⟨_, rfl⟩
                    replace H : ((paronymref22_Find.f k2 x3_2 y115).bind fun t120 => (if t120 < 0 then (if x3_2.length < 5864062014805 then (paronymref22_New.l1 k2 l0 (x3_2 ++ [((rd_L1 l0 x4_1).take (x5_2 : Int).toNat)]) x4_1 (wrap64 (x5_2 + 1))) else (none)) else (paronymref22_New.l1 k2 l0 x3_2 x4_1 (wrap64 (x5_2 + 1))))) = some r := by first | (rw [hy115]; with_reducible exact H) | (have H2_ := (Option.bind_some _ _).symm.trans H; rw [hy115]; with_reducible exact H2_) | (have H2_ := (Option.bind_some _ _).symm.trans H; with_reducible exact H2_) | with_reducible exact H | (rw [hy115]; exact H) | exact H
                    have Ny115 := Aside0.mk hy115
                    clear hy115
                    replace H := Option.bind_eq_some_iff.mp H
                    obtain ⟨t120, A100, H⟩ := H
                    replace H : (if t120 < 0 then (if x3_2.length < 5864062014805 then (paronymref22_New.l1 k2 l0 (x3_2 ++ [((rd_L1 l0 x4_1).take (x5_2 : Int).toNat)]) x4_1 (wrap64 (x5_2 + 1))) else (none)) else (paronymref22_New.l1 k2 l0 x3_2 x4_1 (wrap64 (x5_2 + 1)))) = some r := H
                    have A10 := Aside0.mk A100
                    clear A100
                    by_cases c11 : t120 < 0
                    · rw [if_pos c11] at H
                      have c11b0 : decide (t120 < 0) = true := decide_eq_true c11
                      clear c11
                      have c12b0 := eq_true (of_decide_eq_true (by first | (with_reducible assumption) | assumption) : 0 ≤ x5_2)
                      have c13b0 := eq_true (of_decide_eq_true (by first | (with_reducible assumption) | assumption) : x5_2 ≤ ((rd_L1 l0 x4_1).length : Int))
                      obtain ⟨y122, hy122⟩ : ∃ y_ : List Int, y_ = ((rd_L1 l0 x4_1).take (x5_2 : Int).toNat) := ⟨_, rfl⟩
                      replace H : (if x3_2.length < 5864062014805 then (paronymref22_New.l1 k2 l0 (x3_2 ++ [y122]) x4_1 (wrap64 (x5_2 + 1))) else (none)) = some r := by first | (rw [hy122]; with_reducible exact H) | (have H2_ := (Option.bind_some _ _).symm.trans H; rw [hy122]; with_reducible exact H2_) | (have H2_ := (Option.bind_some _ _).symm.trans H; with_reducible exact H2_) | with_reducible exact H | (rw [hy122]; exact H) | exact H
                      have Ny122 := Aside0.mk hy122
                      clear hy122
                      by_cases c14 : x3_2.length < 5864062014805
                      · rw [if_pos c14] at H
                        have LMc14 := Aside0.mk c14
                        clear c14
                        obtain ⟨y127, hy127⟩ : ∃ y_ : List (List Int), y_ = (x3_2 ++ [y122]) := ⟨_, rfl⟩
                        replace H : (paronymref22_New.l1 k2 l0 y127 x4_1 (wrap64 (x5_2 + 1))) = some r := by first | (rw [hy127]; with_reducible exact H) | (have H2_ := (Option.bind_some _ _).symm.trans H; rw [hy127]; with_reducible exact H2_) | (have H2_ := (Option.bind_some _ _).symm.trans H; with_reducible exact H2_) | with_reducible exact H | (rw [hy127]; exact H) | exact H
                        have Ny127 := Aside0.mk hy127
                        clear hy127
                        have H' := Aside0.mk H
                        clear H
                        have p113 : 0 ≤ (x4_1 : Int) := of_decide_eq_true (by first | (with_reducible assumption) | assumption)
                        have q113 : x4_1 < (l0.length : Int) := of_decide_eq_true (by first | (with_reducible assumption) | assumption)
                        obtain ⟨ad113, A113_0, c113_0, e113, hx113_0, hl113_0, hi113_0⟩ := at_L1 (Kd.V_reads' HO_0.out).2.2 x4_1 p113 q113
                        cases e113
                        obtain ⟨ce113, hce113, hMe113, hcc113⟩ := Kd.V_get HO_0.out [] x4_1 p113 (by first | exact q113 | exact of_decide_eq_true (by first | (with_reducible assumption) | assumption) | (have e_ := (Kd.V_reads' HO_0.out).1; omega))
                        obtain ⟨ua113_0, uc113_0, rfl, ul113_0, ge113_0⟩ := Kd.FK_slice_open hMe113
                        have hv113_0 := hcc113 0 _ rfl
                        rw [Nat.add_zero, show ((Kd.slice 3 (Kd.int .i64))).sz = 1 from rfl, Nat.mul_one] at hv113_0
                        replace hv113_0 := Option.some.inj (hv113_0.symm.trans hx113_0)
                        injection hv113_0 with hva_ hvn_ hvc_
                        rw [hva_] at ge113_0
                        rw [hvc_] at ul113_0
                        have HL113_0 := Aside0.mk (show Kd.V (Kd.int .i64) 3 _ w.heap.size _ _ (rd_L1 l0 x4_1) from Kd.V_mk ul113_0 ge113_0)
                        clear hva_ hvn_ hvc_ ge113_0 ul113_0
                        clear hcc113 hce113
                        have HR113_0 := Aside0.mk hi113_0
                        have HC113_0 := Aside0.mk hl113_0
                        clear hi113_0 hl113_0
                        replace p113 := eq_true p113
                        replace q113 := eq_true q113
                        have p114 : 0 ≤ (x4_1 : Int) := of_decide_eq_true (by first | (with_reducible assumption) | assumption)
                        have q114 : x4_1 < (l0.length : Int) := of_decide_eq_true (by first | (with_reducible assumption) | assumption)
                        obtain ⟨ad114, A114_0, c114_0, e114, hx114_0, hl114_0, hi114_0⟩ := at_L1 (Kd.V_reads' HO_0.out).2.2 x4_1 p114 q114
                        obtain rfl : ad113 = ad114 := (by injection e114)
                        obtain ⟨ce114, hce114, hMe114, hcc114⟩ := Kd.V_get HO_0.out [] x4_1 p114 (by first | exact q114 | exact of_decide_eq_true (by first | (with_reducible assumption) | assumption) | (have e_ := (Kd.V_reads' HO_0.out).1; omega))
                        obtain ⟨ua114_0, uc114_0, rfl, ul114_0, ge114_0⟩ := Kd.FK_slice_open hMe114
                        have hv114_0 := hcc114 0 _ rfl
                        rw [Nat.add_zero, show ((Kd.slice 3 (Kd.int .i64))).sz = 1 from rfl, Nat.mul_one] at hv114_0
                        replace hv114_0 := Option.some.inj (hv114_0.symm.trans hx114_0)
                        injection hv114_0 with hva_ hvn_ hvc_
                        rw [hva_] at ge114_0
                        rw [hvc_] at ul114_0
                        have HL114_0 := Aside0.mk (show Kd.V (Kd.int .i64) 3 _ w.heap.size _ _ (rd_L1 l0 x4_1) from Kd.V_mk ul114_0 ge114_0)
                        clear hva_ hvn_ hvc_ ge114_0 ul114_0
                        clear hcc114 hce114
                        have HR114_0 := Aside0.mk hi114_0
                        have HC114_0 := Aside0.mk hl114_0
                        clear hi114_0 hl114_0
                        replace p114 := eq_true p114
                        replace q114 := eq_true q114
                        have ea_ := Option.some.inj (hx113_0.symm.trans hx114_0)
                        injection ea_ with ea_ en_ ec_
                        subst ea_
                        subst ec_
                        clear en_
                        have q15 : (x5_2 : Int) ≤ (((rd_L1 l0 x4_1).length : Int) : Int) := of_decide_eq_true (by first | (with_reducible assumption) | assumption)
                        obtain ⟨i015, hi015, _, hsz15, _⟩ := info_parts info3
                        have hroom15 : (rd_L1 l0 x4_1).length ≤ c113_0 := HC114_0.out
                        have hC15 : Kd.F (Kd.int .i64) _ _ A113_0 (rd_L1 l0 x4_1).length (rd_L1 l0 x4_1) := (Kd.V_at (base := w.heap.size) HL114_0.out).2.2
                        have hcut15 := cut_to (P := Try.prog) 23 3 .i64 Try.underlying23 hi015 A113_0 (rd_L1 l0 x4_1).length c113_0 x5_2 (of_decide_eq_true (by first | (with_reducible assumption) | assumption)) q15 hroom15
                        have hr15 := Kd.F_take (m := (x5_2 : Int).toNat) hC15 (by omega)
                        have hy15 : y115.length = (x5_2 : Int).toNat := (by rw [Ny115.out, List.length_take]; omega)
                        rw [← Ny115.out] at hr15
                        rw [← hy15] at hcut15
                        have HO119 := Aside0.mk (show Kd.V (Kd.int .i64) 3 _ w.heap.size _ (.slice A113_0 y115.length c113_0) y115 from Kd.V_mk (by omega) hr15)
                        have HC119 := Aside0.mk (show y115.length ≤ c113_0 from by omega)
                        clear hr15 hC15 hroom15 hi015 hsz15
                        have KY15 := Aside0.mk hy15
                        clear hy15
                        replace q15 := eq_true q15
                        obtain ⟨Ao16, co16, eo16⟩ := Kd.N_slice HO_3.out
                        subst eo16
                        go_wp2_with (first | ((with_reducible refine gate_callee (f := 82) rfl ?_); refine goesL_ (some 29) rfl rfl Try.func82 (by kernel_rfl) rfl #[.slice Ao16 x3_2.length co16, .slice A113_0 y115.length c113_0] rfl (by (try simp only [List.map_toArray, List.map_cons, List.map_nil]); first | done | rfl | (simp only [List.length_drop, List.length_take]; rfl)) ?_; (with_reducible refine (paronymref22_Find.calls k2 _ _ x3_2 _ _ y115 t120 _ ?side1 ?side2 ?side3 ?side4 A10.out).mono ?_); (case side1 => repeat (first | exact (Kd.N_reads' HO_3.out).2.2 | (with_reducible refine Kd.C_alloc ?_ _) | (with_reducible refine Kd.C_drewN ?_ _) | (with_reducible refine Kd.C_drew ?_))); (case side2 => exact (Kd.N_reads' HO_3.out).2.1); (case side3 => repeat (first | exact (Kd.V_reads' HO119.out).2.2 | (with_reducible refine Kd.C_alloc ?_ _) | (with_reducible refine Kd.C_drewN ?_ _) | (with_reducible refine Kd.C_drew ?_))); (case side4 => exact (Kd.V_reads' HO119.out).2.1); rintro e w' ⟨rfl, ⟨nd, rfl⟩⟩; refine ⟨_, rfl, ?_⟩; have p121 : 0 ≤ (x4_1 : Int) := of_decide_eq_true (by first | (with_reducible assumption) | assumption); have q121 : x4_1 < (l0.length : Int) := of_decide_eq_true (by first | (with_reducible assumption) | assumption); obtain ⟨ad121, A121_0, c121_0, e121, hx121_0, hl121_0, hi121_0⟩ := at_L1 (Kd.V_reads' HO_0.out).2.2 x4_1 p121 q121; obtain rfl : ad113 = ad121 := (by injection e121); obtain ⟨ce121, hce121, hMe121, hcc121⟩ := Kd.V_get HO_0.out [] x4_1 p121 (by first | exact q121 | exact of_decide_eq_true (by first | (with_reducible assumption) | assumption) | (have e_ := (Kd.V_reads' HO_0.out).1; omega)); obtain ⟨ua121_0, uc121_0, rfl, ul121_0, ge121_0⟩ := Kd.FK_slice_open hMe121; have hv121_0 := hcc121 0 _ rfl; rw [Nat.add_zero, show ((Kd.slice 3 (Kd.int .i64))).sz = 1 from rfl, Nat.mul_one] at hv121_0; replace hv121_0 := Option.some.inj (hv121_0.symm.trans hx121_0); injection hv121_0 with hva_ hvn_ hvc_; rw [hva_] at ge121_0; rw [hvc_] at ul121_0; have HL121_0 := Aside0.mk (show Kd.V (Kd.int .i64) 3 _ w.heap.size _ _ (rd_L1 l0 x4_1) from Kd.V_mk ul121_0 ge121_0); clear hva_ hvn_ hvc_ ge121_0 ul121_0; clear hcc121 hce121; have HR121_0 := Aside0.mk hi121_0; have HC121_0 := Aside0.mk hl121_0; clear hi121_0 hl121_0; replace p121 := eq_true p121; replace q121 := eq_true q121; have ea_ := Option.some.inj (hx113_0.symm.trans hx121_0); injection ea_ with ea_ en_ ec_; subst ea_; subst ec_; clear en_; have q17 : (x5_2 : Int) ≤ (((rd_L1 l0 x4_1).length : Int) : Int) := of_decide_eq_true (by first | (with_reducible assumption) | assumption); obtain ⟨i017, hi017, _, hsz17, _⟩ := info_parts info3; have hroom17 : (rd_L1 l0 x4_1).length ≤ c113_0 := HC121_0.out; have hC17 : Kd.F (Kd.int .i64) _ _ A113_0 (rd_L1 l0 x4_1).length (rd_L1 l0 x4_1) := (Kd.V_at (base := w.heap.size) HL121_0.out).2.2; have hcut17 := cut_to (P := Try.prog) 23 3 .i64 Try.underlying23 hi017 A113_0 (rd_L1 l0 x4_1).length c113_0 x5_2 (of_decide_eq_true (by first | (with_reducible assumption) | assumption)) q17 hroom17; have hr17 := Kd.F_take (m := (x5_2 : Int).toNat) hC17 (by omega); have hy17 : y122.length = (x5_2 : Int).toNat := (by rw [Ny122.out, List.length_take]; omega); rw [← Ny122.out] at hr17; rw [← hy17] at hcut17; have HO126 := Aside0.mk (show Kd.V (Kd.int .i64) 3 _ w.heap.size _ (.slice A113_0 y122.length c113_0) y122 from Kd.V_mk (by omega) hr17); have HC126 := Aside0.mk (show y122.length ≤ c113_0 from by omega); clear hr17 hC17 hroom17 hi017 hsz17; have KY17 := Aside0.mk hy17; clear hy17; replace q17 := eq_true q17) | ((with_reducible refine gate_builtin (b := .append) (xs := #[.tmp 31, .tmp 38]) rfl ?_); at_builtin; (refine Kd.N_append (Kd.slice 3 (Kd.int .i64)) (w0 := w) w.heap.size rfl (.tmp 31) (.tmp 38) 45 23 (.slice none 0 0) 24 rfl Try.underlying45 info23 rfl (by decide) (by omega) (.slice Ao16 x3_2.length co16) x3_2 y115 [.slice A113_0 y115.length c113_0] (fun k_ => (P0_ k_ ∨ w.heap.size ≤ k_)) (fun k_ => ((fun k_ => (P0_ k_ ∨ w.heap.size ≤ k_))) k_ ∧ some k_ ≠ (.slice Ao16 x3_2.length co16 : Value).ownBlock) rfl rfl ?aP (fun _ hk => hk) ?aF ?aO ?aB ?aS ?aL ?_); (case aP => (exact Kd.FK_slice_mk (show y115.length ≤ c113_0 from HC119.out) (Kd.V_F (show Kd.V (Kd.int .i64) 3 _ w.heap.size _ (.slice A113_0 y115.length c113_0) y115 from by (with_reducible repeat (first | apply Kd.V_alloc | apply Kd.V_drewN | apply Kd.V_drew)); exact Kd.V_mono HO119.out (fun k_ hk => ⟨hk.1, hk.2⟩))))); (case aB => (exact (by repeat (first | (with_reducible first | exact HB.out | apply below_alloc | apply pw_below_drewN | apply below_drew1) | exact HB.out)))); (case aF => (exact (fun k_ hk => (.inr (Nat.le_trans (below_size (by repeat (first | (with_reducible first | exact HB.out | apply below_alloc | apply pw_below_drewN | apply below_drew1) | exact HB.out))) hk))))); (case aO => (exact (by (with_reducible repeat (first | apply Kd.N_alloc | apply Kd.N_drewN | apply Kd.N_drew)); exact HO_3.out))); (case aS => (exact (below_size (by repeat (first | (with_reducible first | exact HB.out | apply below_alloc | apply pw_below_drewN | apply below_drew1) | exact HB.out))))); (case aL => (have := LMc14.out; omega)); (intro v128 w18 ho hb hg hat; rw [show x3_2 ++ [y115] = y127 from by rw [Ny127.out, Ny122.out, Ny115.out]] at ho; have n0_ := Aside0.mk (Kd.V_afterv (ok := (fun k_ => (P0_ k_ ∨ w.heap.size ≤ k_))) (by (with_reducible repeat (first | apply Kd.V_alloc | apply Kd.V_drewN | apply Kd.V_drew)); exact HO_0.out) hg hat); have n1_ := Aside0.mk (Kd.V_afterv (ok := (fun k_ => (P0_ k_ ∨ w.heap.size ≤ k_))) (by (with_reducible repeat (first | apply Kd.V_alloc | apply Kd.V_drewN | apply Kd.V_drew)); exact HL113_0.out) hg hat); have n2_ := Aside0.mk (Kd.V_afterv (ok := (fun k_ => (P0_ k_ ∨ w.heap.size ≤ k_))) (by (with_reducible repeat (first | apply Kd.V_alloc | apply Kd.V_drewN | apply Kd.V_drew)); exact HL114_0.out) hg hat); have n3_ := Aside0.mk (Kd.V_afterv (ok := (fun k_ => (P0_ k_ ∨ w.heap.size ≤ k_))) (by (with_reducible repeat (first | apply Kd.V_alloc | apply Kd.V_drewN | apply Kd.V_drew)); exact HO119.out) hg hat); have n4_ := Aside0.mk (Kd.V_afterv (ok := (fun k_ => (P0_ k_ ∨ w.heap.size ≤ k_))) (by (with_reducible repeat (first | apply Kd.V_alloc | apply Kd.V_drewN | apply Kd.V_drew)); exact HL121_0.out) hg hat); have n5_ := Aside0.mk (Kd.V_afterv (ok := (fun k_ => (P0_ k_ ∨ w.heap.size ≤ k_))) (by (with_reducible repeat (first | apply Kd.V_alloc | apply Kd.V_drewN | apply Kd.V_drew)); exact HO126.out) hg hat); have n6_ := Aside0.mk (hb); have n7_ := Aside0.mk (ho); clear HO_0; clear HL113_0; clear HL114_0; clear HO119; clear HL121_0; clear HO126; clear HB; clear HO_3; have HO_0 := n0_; have HL113_0 := n1_; have HL114_0 := n2_; have HO119 := n3_; have HL121_0 := n4_; have HO126 := n5_; have HB := n6_; have HO129 := n7_; clear n0_ n1_ n2_ n3_ n4_ n5_ n6_ n7_; clear ho hb hg hat)))
                        go_roundg k2
                        case measure => have := HK1.out; have := HK2.out; omega
                        case rel => exact ⟨(y127), (wrap64 (x5_2 + 1)), (by first | rfl | (simp; done) | (simp [*]; done)), H', ⟨by have := HK1.out; have := HK2.out; omega⟩, ⟨by (with_reducible repeat (first | apply Kd.V_alloc | apply Kd.V_drewN | apply Kd.V_drew)); exact HO_0.out⟩, ⟨by (with_reducible repeat (first | apply Kd.N_alloc | apply Kd.N_drewN | apply Kd.N_drew)); exact HO129.out⟩, ⟨by repeat (first | (with_reducible first | exact HB.out | apply below_alloc | apply pw_below_drewN | apply below_drew1) | exact HB.out)⟩⟩
                      · rw [if_neg c14] at H
                        exact absurd H (by simp)
                    · rw [if_neg c11] at H
                      have c11b0 : decide (t120 < 0) = false := decide_eq_false c11
                      clear c11
                      have H' := Aside0.mk H
                      clear H
                      have p113 : 0 ≤ (x4_1 : Int) := of_decide_eq_true (by first | (with_reducible assumption) | assumption)
                      have q113 : x4_1 < (l0.length : Int) := of_decide_eq_true (by first | (with_reducible assumption) | assumption)
                      obtain ⟨ad113, A113_0, c113_0, e113, hx113_0, hl113_0, hi113_0⟩ := at_L1 (Kd.V_reads' HO_0.out).2.2 x4_1 p113 q113
                      cases e113
                      obtain ⟨ce113, hce113, hMe113, hcc113⟩ := Kd.V_get HO_0.out [] x4_1 p113 (by first | exact q113 | exact of_decide_eq_true (by first | (with_reducible assumption) | assumption) | (have e_ := (Kd.V_reads' HO_0.out).1; omega))
                      obtain ⟨ua113_0, uc113_0, rfl, ul113_0, ge113_0⟩ := Kd.FK_slice_open hMe113
                      have hv113_0 := hcc113 0 _ rfl
                      rw [Nat.add_zero, show ((Kd.slice 3 (Kd.int .i64))).sz = 1 from rfl, Nat.mul_one] at hv113_0
                      replace hv113_0 := Option.some.inj (hv113_0.symm.trans hx113_0)
                      injection hv113_0 with hva_ hvn_ hvc_
                      rw [hva_] at ge113_0
                      rw [hvc_] at ul113_0
                      have HL113_0 := Aside0.mk (show Kd.V (Kd.int .i64) 3 _ w.heap.size _ _ (rd_L1 l0 x4_1) from Kd.V_mk ul113_0 ge113_0)
                      clear hva_ hvn_ hvc_ ge113_0 ul113_0
                      clear hcc113 hce113
                      have HR113_0 := Aside0.mk hi113_0
                      have HC113_0 := Aside0.mk hl113_0
                      clear hi113_0 hl113_0
                      replace p113 := eq_true p113
                      replace q113 := eq_true q113
                      have p114 : 0 ≤ (x4_1 : Int) := of_decide_eq_true (by first | (with_reducible assumption) | assumption)
                      have q114 : x4_1 < (l0.length : Int) := of_decide_eq_true (by first | (with_reducible assumption) | assumption)
                      obtain ⟨ad114, A114_0, c114_0, e114, hx114_0, hl114_0, hi114_0⟩ := at_L1 (Kd.V_reads' HO_0.out).2.2 x4_1 p114 q114
                      obtain rfl : ad113 = ad114 := (by injection e114)
                      obtain ⟨ce114, hce114, hMe114, hcc114⟩ := Kd.V_get HO_0.out [] x4_1 p114 (by first | exact q114 | exact of_decide_eq_true (by first | (with_reducible assumption) | assumption) | (have e_ := (Kd.V_reads' HO_0.out).1; omega))
                      obtain ⟨ua114_0, uc114_0, rfl, ul114_0, ge114_0⟩ := Kd.FK_slice_open hMe114
                      have hv114_0 := hcc114 0 _ rfl
                      rw [Nat.add_zero, show ((Kd.slice 3 (Kd.int .i64))).sz = 1 from rfl, Nat.mul_one] at hv114_0
                      replace hv114_0 := Option.some.inj (hv114_0.symm.trans hx114_0)
                      injection hv114_0 with hva_ hvn_ hvc_
                      rw [hva_] at ge114_0
                      rw [hvc_] at ul114_0
                      have HL114_0 := Aside0.mk (show Kd.V (Kd.int .i64) 3 _ w.heap.size _ _ (rd_L1 l0 x4_1) from Kd.V_mk ul114_0 ge114_0)
                      clear hva_ hvn_ hvc_ ge114_0 ul114_0
                      clear hcc114 hce114
                      have HR114_0 := Aside0.mk hi114_0
                      have HC114_0 := Aside0.mk hl114_0
                      clear hi114_0 hl114_0
                      replace p114 := eq_true p114
                      replace q114 := eq_true q114
                      have ea_ := Option.some.inj (hx113_0.symm.trans hx114_0)
                      injection ea_ with ea_ en_ ec_
                      subst ea_
                      subst ec_
                      clear en_
                      have q19 : (x5_2 : Int) ≤ (((rd_L1 l0 x4_1).length : Int) : Int) := of_decide_eq_true (by first | (with_reducible assumption) | assumption)
                      obtain ⟨i019, hi019, _, hsz19, _⟩ := info_parts info3
                      have hroom19 : (rd_L1 l0 x4_1).length ≤ c113_0 := HC114_0.out
                      have hC19 : Kd.F (Kd.int .i64) _ _ A113_0 (rd_L1 l0 x4_1).length (rd_L1 l0 x4_1) := (Kd.V_at (base := w.heap.size) HL114_0.out).2.2
                      have hcut19 := cut_to (P := Try.prog) 23 3 .i64 Try.underlying23 hi019 A113_0 (rd_L1 l0 x4_1).length c113_0 x5_2 (of_decide_eq_true (by first | (with_reducible assumption) | assumption)) q19 hroom19
                      have hr19 := Kd.F_take (m := (x5_2 : Int).toNat) hC19 (by omega)
                      have hy19 : y115.length = (x5_2 : Int).toNat := (by rw [Ny115.out, List.length_take]; omega)
                      rw [← Ny115.out] at hr19
                      rw [← hy19] at hcut19
                      have HO119 := Aside0.mk (show Kd.V (Kd.int .i64) 3 _ w.heap.size _ (.slice A113_0 y115.length c113_0) y115 from Kd.V_mk (by omega) hr19)
                      have HC119 := Aside0.mk (show y115.length ≤ c113_0 from by omega)
                      clear hr19 hC19 hroom19 hi019 hsz19
                      have KY19 := Aside0.mk hy19
                      clear hy19
                      replace q19 := eq_true q19
                      obtain ⟨Ao20, co20, eo20⟩ := Kd.N_slice HO_3.out
                      subst eo20
                      go_wp2_with (first | ((with_reducible refine gate_callee (f := 82) rfl ?_); refine goesL_ (some 29) rfl rfl Try.func82 (by kernel_rfl) rfl #[.slice Ao20 x3_2.length co20, .slice A113_0 y115.length c113_0] rfl (by (try simp only [List.map_toArray, List.map_cons, List.map_nil]); first | done | rfl | (simp only [List.length_drop, List.length_take]; rfl)) ?_; (with_reducible refine (paronymref22_Find.calls k2 _ _ x3_2 _ _ y115 t120 _ ?side1 ?side2 ?side3 ?side4 A10.out).mono ?_); (case side1 => repeat (first | exact (Kd.N_reads' HO_3.out).2.2 | (with_reducible refine Kd.C_alloc ?_ _) | (with_reducible refine Kd.C_drewN ?_ _) | (with_reducible refine Kd.C_drew ?_))); (case side2 => exact (Kd.N_reads' HO_3.out).2.1); (case side3 => repeat (first | exact (Kd.V_reads' HO119.out).2.2 | (with_reducible refine Kd.C_alloc ?_ _) | (with_reducible refine Kd.C_drewN ?_ _) | (with_reducible refine Kd.C_drew ?_))); (case side4 => exact (Kd.V_reads' HO119.out).2.1); rintro e w' ⟨rfl, ⟨nd, rfl⟩⟩; refine ⟨_, rfl, ?_⟩))
                      go_roundg k2
                      case measure => have := HK1.out; have := HK2.out; omega
                      case rel => exact ⟨(x3_2), (wrap64 (x5_2 + 1)), (by first | rfl | (simp; done) | (simp [*]; done)), H', ⟨by have := HK1.out; have := HK2.out; omega⟩, ⟨by (with_reducible repeat (first | apply Kd.V_alloc | apply Kd.V_drewN | apply Kd.V_drew)); exact HO_0.out⟩, ⟨by (with_reducible repeat (first | apply Kd.N_alloc | apply Kd.N_drewN | apply Kd.N_drew)); exact HO_3.out⟩, ⟨by repeat (first | (with_reducible first | exact HB.out | apply below_alloc | apply pw_below_drewN | apply below_drew1) | exact HB.out)⟩⟩
                  · rw [if_neg c8] at H
                    exact absurd H (by simp)
                · rw [if_neg c7] at H
                  have c7b0 : decide (x5_2 ≤ ((rd_L1 l0 x4_1).length : Int)) = false := decide_eq_false c7
                  clear c7
                  have H' := Aside0.mk H
                  clear H
                  have p113 : 0 ≤ (x4_1 : Int) := of_decide_eq_true (by first | (with_reducible assumption) | assumption)
                  have q113 : x4_1 < (l0.length : Int) := of_decide_eq_true (by first | (with_reducible assumption) | assumption)
                  obtain ⟨ad113, A113_0, c113_0, e113, hx113_0, hl113_0, hi113_0⟩ := at_L1 (Kd.V_reads' HO_0.out).2.2 x4_1 p113 q113
                  cases e113
                  obtain ⟨ce113, hce113, hMe113, hcc113⟩ := Kd.V_get HO_0.out [] x4_1 p113 (by first | exact q113 | exact of_decide_eq_true (by first | (with_reducible assumption) | assumption) | (have e_ := (Kd.V_reads' HO_0.out).1; omega))
                  obtain ⟨ua113_0, uc113_0, rfl, ul113_0, ge113_0⟩ := Kd.FK_slice_open hMe113
                  have hv113_0 := hcc113 0 _ rfl
                  rw [Nat.add_zero, show ((Kd.slice 3 (Kd.int .i64))).sz = 1 from rfl, Nat.mul_one] at hv113_0
                  replace hv113_0 := Option.some.inj (hv113_0.symm.trans hx113_0)
                  injection hv113_0 with hva_ hvn_ hvc_
                  rw [hva_] at ge113_0
                  rw [hvc_] at ul113_0
                  have HL113_0 := Aside0.mk (show Kd.V (Kd.int .i64) 3 _ w.heap.size _ _ (rd_L1 l0 x4_1) from Kd.V_mk ul113_0 ge113_0)
                  clear hva_ hvn_ hvc_ ge113_0 ul113_0
                  clear hcc113 hce113
                  have HR113_0 := Aside0.mk hi113_0
                  have HC113_0 := Aside0.mk hl113_0
                  clear hi113_0 hl113_0
                  replace p113 := eq_true p113
                  replace q113 := eq_true q113
                  go_wp2
                  go_roundg k2
                  case measure => have := HK1.out; have := HK2.out; omega
                  case rel => exact ⟨(x3_2), (wrap64 (x4_1 + 1)), (by first | rfl | (simp; done) | (simp [*]; done)), H', ⟨by have := HK1.out; have := HK2.out; omega⟩, ⟨by (with_reducible repeat (first | apply Kd.V_alloc | apply Kd.V_drewN | apply Kd.V_drew)); exact HO_0.out⟩, ⟨by (with_reducible repeat (first | apply Kd.N_alloc | apply Kd.N_drewN | apply Kd.N_drew)); exact HO_3.out⟩, ⟨by repeat (first | (with_reducible first | exact HB.out | apply below_alloc | apply pw_below_drewN | apply below_drew1) | exact HB.out)⟩⟩
              · rw [if_neg c6] at H
                exact absurd H (by simp)
            · rw [if_neg c5] at H
              exact absurd H (by simp)
      · rw [if_neg c4] at H
        have c4b0 : decide (x4_1 < (l0.length : Int)) = false := decide_eq_false c4
        clear c4
        obtain rfl := Option.some.inj H
        go_wp2
        go_ret
        exact ⟨_, by first | rfl | (simp [errW_none, errW_some] <;> rfl) | (simp [*, errW_none, errW_some] <;> rfl), by (with_reducible repeat (first | apply Kd.N_alloc | apply Kd.N_drewN | apply Kd.N_drew)); exact HO_3.out, by repeat (first | (with_reducible first | exact HB.out | apply below_alloc | apply pw_below_drewN | apply below_drew1) | exact HB.out)⟩

/-! ### paronymref23_Longest: function 85 -/
def paronymref23_Longest.l0 : Nat → List (List Int) → List Int → Int → Option (Int)
  | 0, _, _, _ => none
  | k + 1, x0, x1, x7 => if x7 ≤ (x1.length : Int) then (if 0 ≤ x7 then ((paronymref22_Find.f k x0 (x1.drop (x7 : Int).toNat)).bind fun t131 => (if t131 ≥ 0 then (some t131) else (paronymref23_Longest.l0 k x0 x1 (wrap64 (x7 + 1))))) else (none)) else (some 0)
def paronymref23_Longest.f (k : Nat) (l0 : List (List Int)) (l1 : List Int) (a2 : Int) : Option (Int) := paronymref23_Longest.l0 k l0 l1 a2
theorem paronymref23_Longest.mono_l : ∀ k, (∀ y0 y1 y2, LeO (paronymref23_Longest.l0 k y0 y1 y2) (paronymref23_Longest.l0 (k + 1) y0 y1 y2))
  | 0 => fun _ _ _ r h => by simp [paronymref23_Longest.l0] at h
  | k + 1 => by
    have ih0 := paronymref23_Longest.mono_l k
    · intro y0 y1 y2
      unfold paronymref23_Longest.l0
      repeat' first
      | (with_reducible exact ih0 _ _ _)
      | (with_reducible exact paronymref22_Find.mono _ _ _)
      | (with_reducible exact LeO.refl _)
      | (with_reducible exact LeO.none _)
      | (with_reducible refine LeO.ite ?_ ?_)
      | (with_reducible refine LeO.bind ?_ (fun _ => ?_))
      | exact ih0 _ _ _
      | exact paronymref22_Find.mono _ _ _
      | exact LeO.none _
      | refine LeO.ite ?_ ?_
      | refine LeO.bind ?_ (fun _ => ?_)
theorem paronymref23_Longest.mono : ∀ a0 a1 a2 k, LeO (paronymref23_Longest.f k a0 a1 a2) (paronymref23_Longest.f (k + 1) a0 a1 a2) := by
  intro a0 a1 a2 k
  have ih0 := paronymref23_Longest.mono_l k
  unfold paronymref23_Longest.f
  repeat' first
      | (with_reducible exact ih0 _ _ _)
      | (with_reducible exact paronymref22_Find.mono _ _ _)
      | (with_reducible exact LeO.refl _)
      | (with_reducible exact LeO.none _)
      | (with_reducible refine LeO.ite ?_ ?_)
      | (with_reducible refine LeO.bind ?_ (fun _ => ?_))
      | exact ih0 _ _ _
      | exact paronymref22_Find.mono _ _ _
      | exact LeO.none _
      | refine LeO.ite ?_ ?_
      | refine LeO.bind ?_ (fun _ => ?_)
set_option maxHeartbeats 8000000 in
set_option maxRecDepth 100000 in
theorem paronymref23_Longest.calls (k : Nat) (A0 : Option Addr) (c0 : Nat) (l0 : List (List Int)) (A1 : Option Addr) (c1 : Nat) (l1 : List Int) (a2 : Int) (r : Int) (w : World) (hr0 : Kd.C (Kd.slice 3 (Kd.int .i64)) w A0 l0.length l0) (hc0 : l0.length ≤ c0) (hr1 : Kd.C (Kd.int .i64) w A1 l1.length l1) (hc1 : l1.length ≤ c1) (h : paronymref23_Longest.f k l0 l1 a2 = some r) :
    Calls Try.prog 85 #[.slice A0 l0.length c0, .slice A1 l1.length c1, .int .i64 a2] w fun e w' => e = .returned (.int .i64 r) ∧ Drawn0 w w' := by
  have HR0 := Aside0.mk hr0
  have HC0 := Aside0.mk hc0
  clear hr0 hc0
  have HR1 := Aside0.mk hr1
  have HC1 := Aside0.mk hc1
  clear hr1 hc1
  have H : (paronymref23_Longest.l0 k l0 l1 a2) = some r := h
  clear h
  have H' := Aside0.mk H
  clear H
  go_enter Try.func85, Try.ntmps85
  go_wp2
  go_loopg [7] k (fun kq v7 w' => ∃ (x7_1 : Int), v7 = .int .i64 x7_1 ∧ Aside0 (paronymref23_Longest.l0 kq l0 l1 x7_1 = some r) ∧ Aside0 (kq ≤ k) ∧ Drawn0 w w')
  case atStart => exact ⟨(a2), (by first | rfl | (simp; done) | (simp [*]; done)), H', ⟨Nat.le_refl _⟩, by repeat (first | exact Drawn0.refl _ | apply Drawn0.step)⟩
  case round =>
    clear H'
    try clear c1
    try clear p2
    obtain ⟨x7_1, rfl, HA, HK1, ⟨m1, rfl⟩⟩ := hrel
    cases gk with
    | zero => exact absurd HA.out (by simp [paronymref23_Longest.l0])
    | succ k1 =>
      have H := HA.out
      clear HA
      simp only [paronymref23_Longest.l0] at H
      by_cases c4 : x7_1 ≤ (l1.length : Int)
      · rw [if_pos c4] at H
        have c4b0 : decide (x7_1 ≤ (l1.length : Int)) = true := decide_eq_true c4
        clear c4
        by_cases c5 : 0 ≤ x7_1
        · rw [if_pos c5] at H
          have c5b0 := eq_true c5
          have c5b1 : decide (0 ≤ x7_1) = true := decide_eq_true c5
          clear c5
          have c6b0 := eq_true (of_decide_eq_true (by first | (with_reducible assumption) | assumption) : x7_1 ≤ (l1.length : Int))
          replace H := Option.bind_eq_some_iff.mp H
          obtain ⟨t131, A70, H⟩ := H
          replace H : (if t131 ≥ 0 then (some t131) else (paronymref23_Longest.l0 k1 l0 l1 (wrap64 (x7_1 + 1)))) = some r := H
          have A7 := Aside0.mk A70
          clear A70
          by_cases c8 : t131 ≥ 0
          · rw [if_pos c8] at H
            have c8b0 : decide (0 ≤ t131) = true := decide_eq_true c8
            clear c8
            obtain rfl := Option.some.inj H
            obtain ⟨i09, hi09, _, hsz9, _⟩ := info_parts info3
            obtain ⟨A9, hcut9, hA9, hC9⟩ := print_drop_of (P := Try.prog) (Value.int .i64) 0 23 3 .i64 Try.underlying23 hi09 hsz9 A1 c1 l1 x7_1 (of_decide_eq_true (by first | (with_reducible assumption) | assumption)) (of_decide_eq_true (by first | (with_reducible assumption) | assumption)) HC1.out
            have HR130 := Aside0.mk (Kd.C_of_reads (h1 := fun _ => rfl) (hA9 _ (Kd.reads_of_C HR1.out)))
            have HC130 := Aside0.mk hC9
            clear hA9 hC9 hi09 hsz9
            go_wp2_with (first | ((with_reducible refine gate_callee (f := 82) rfl ?_); refine goesL_ (some 20) rfl rfl Try.func82 (by kernel_rfl) rfl #[.slice A0 l0.length c0, .slice A9 (l1.drop (x7_1 : Int).toNat).length (c1 - x7_1.toNat)] rfl (by (try simp only [List.map_toArray, List.map_cons, List.map_nil]); first | done | (rw [show (l1.drop (x7_1 : Int).toNat).length = (l1.length - x7_1.toNat) from List.length_drop] <;> rfl) | rfl | (simp only [List.length_drop, List.length_take]; rfl)) ?_; (with_reducible refine (paronymref22_Find.calls k1 _ _ l0 _ _ (l1.drop (x7_1 : Int).toNat) t131 _ ?side1 ?side2 ?side3 ?side4 A7.out).mono ?_); (case side1 => repeat (first | exact HR0.out | (with_reducible refine Kd.C_alloc ?_ _) | (with_reducible refine Kd.C_drewN ?_ _) | (with_reducible refine Kd.C_drew ?_))); (case side2 => exact HC0.out); (case side3 => repeat (first | exact HR130.out | (with_reducible refine Kd.C_alloc ?_ _) | (with_reducible refine Kd.C_drewN ?_ _) | (with_reducible refine Kd.C_drew ?_))); (case side4 => exact HC130.out); rintro e w' ⟨rfl, ⟨nd, rfl⟩⟩; refine ⟨_, rfl, ?_⟩))
            go_ret
            exact ⟨by first | rfl | (simp; done) | (simp [*]; done), by repeat (first | exact Drawn0.refl _ | apply Drawn0.step)⟩
          · rw [if_neg c8] at H
            have c8b0 : decide (0 ≤ t131) = false := decide_eq_false c8
            clear c8
            have H' := Aside0.mk H
            clear H
            obtain ⟨i010, hi010, _, hsz10, _⟩ := info_parts info3
            obtain ⟨A10, hcut10, hA10, hC10⟩ := print_drop_of (P := Try.prog) (Value.int .i64) 0 23 3 .i64 Try.underlying23 hi010 hsz10 A1 c1 l1 x7_1 (of_decide_eq_true (by first | (with_reducible assumption) | assumption)) (of_decide_eq_true (by first | (with_reducible assumption) | assumption)) HC1.out
            have HR130 := Aside0.mk (Kd.C_of_reads (h1 := fun _ => rfl) (hA10 _ (Kd.reads_of_C HR1.out)))
            have HC130 := Aside0.mk hC10
            clear hA10 hC10 hi010 hsz10
            go_wp2_with (first | ((with_reducible refine gate_callee (f := 82) rfl ?_); refine goesL_ (some 20) rfl rfl Try.func82 (by kernel_rfl) rfl #[.slice A0 l0.length c0, .slice A10 (l1.drop (x7_1 : Int).toNat).length (c1 - x7_1.toNat)] rfl (by (try simp only [List.map_toArray, List.map_cons, List.map_nil]); first | done | (rw [show (l1.drop (x7_1 : Int).toNat).length = (l1.length - x7_1.toNat) from List.length_drop] <;> rfl) | rfl | (simp only [List.length_drop, List.length_take]; rfl)) ?_; (with_reducible refine (paronymref22_Find.calls k1 _ _ l0 _ _ (l1.drop (x7_1 : Int).toNat) t131 _ ?side1 ?side2 ?side3 ?side4 A7.out).mono ?_); (case side1 => repeat (first | exact HR0.out | (with_reducible refine Kd.C_alloc ?_ _) | (with_reducible refine Kd.C_drewN ?_ _) | (with_reducible refine Kd.C_drew ?_))); (case side2 => exact HC0.out); (case side3 => repeat (first | exact HR130.out | (with_reducible refine Kd.C_alloc ?_ _) | (with_reducible refine Kd.C_drewN ?_ _) | (with_reducible refine Kd.C_drew ?_))); (case side4 => exact HC130.out); rintro e w' ⟨rfl, ⟨nd, rfl⟩⟩; refine ⟨_, rfl, ?_⟩))
            go_roundg k1
            case measure => have := HK1.out; omega
            case rel => exact ⟨(wrap64 (x7_1 + 1)), (by first | rfl | (simp; done) | (simp [*]; done)), H', ⟨by have := HK1.out; omega⟩, by repeat (first | exact Drawn0.refl _ | apply Drawn0.step)⟩
        · rw [if_neg c5] at H
          exact absurd H (by simp)
      · rw [if_neg c4] at H
        have c4b0 : decide (x7_1 ≤ (l1.length : Int)) = false := decide_eq_false c4
        clear c4
        obtain rfl := Option.some.inj H
        go_wp2
        go_ret
        exact ⟨by first | rfl | (simp; done) | (simp [*]; done), by repeat (first | exact Drawn0.refl _ | apply Drawn0.step)⟩

end Go.Proofs.Ytgfmplhpoblleaa.PFB
end
section
/- trie: New. -/
namespace Go.Proofs.Ytgfmplhpoblleaa.FailW
open Go.RowKit Go.Shelf Go.Lib Go.Proofs Go.Proofs.YtgfmplhpoblleaaW.PrintWords Go.Proofs.YtgfmplhpoblleaaW.PrintLast Go.Proofs.YtgfmplhpoblleaaW.PrintMore Go.Proofs.Ytgfmplhpoblleaa.PRank Go.Proofs.Ytgfmplhpoblleaa.PFB Go.Proofs.Ytgfmplhpoblleaa.RankW Go.Proofs.Ytgfmplhpoblleaa.SortOwn Go.Proofs.Ytgfmplhpoblleaa
open Go.Proofs.Ytgfmplhpoblleaa.Cmps hiding dedup
set_option linter.unusedVariables false
set_option linter.unusedSimpArgs false

theorem Bld.trie {w : World} {base g : Nat} {vn : Value} {x : List S106} {L : List (Value × Value)} (h : Bld w base g vn x L) : TrieAt w ⟨g, 0, none⟩ x := by
  have hR : Kd.R k106 106 w base (fun _ => True) vn x := by
    refine ⟨fun _ _ => trivial, ncells x L, h.row, ncells_len x L h.len, fun j y hj => ?_⟩
    obtain ⟨hjx, ej⟩ := List.getElem?_eq_some_iff.1 hj
    have hjL : j < L.length := by have := h.len; omega
    have hnd := h.nd j y L[j] hj (List.getElem?_eq_getElem hjL)
    have e : ((ncells x L).drop (j * 5)).take 5 = ncell y L[j] := by
      apply List.ext_getElem?
      intro t
      rcases Nat.lt_or_ge t 5 with ht | ht
      · rw [List.getElem?_take_of_lt ht, List.getElem?_drop, ncells_at x L h.len j hjx t ht, ej]
      · rw [List.getElem?_eq_none (by simp; omega), List.getElem?_eq_none (by simp [ncell]; omega)]
    show k106.M w base _ y (((ncells x L).drop (j * 5)).take 5)
    rw [e]
    have ne1 : ∀ k, L[j].1.ownBlock = some k → some k ≠ vn.ownBlock := fun k hk => by
      rcases own_type_ne hnd.e h.row (by decide) with h1 | h1
      · rw [h1] at hk; cases hk
      · rw [← hk]; exact h1
    have ne2 : ∀ k, L[j].2.ownBlock = some k → some k ≠ vn.ownBlock := fun k hk => by
      rcases own_type_ne hnd.d h.row (by decide) with h1 | h1
      · rw [h1] at hk; cases hk
      · rw [← hk]; exact h1
    exact k106_mkM w base _ y ⟨fun k hk => ⟨trivial, ne1 k hk⟩, ecells y.f3, hnd.e, reps_edges _ _ _ _⟩ (Kd.R_of_own hnd.d (fun k hk => ⟨trivial, ne2 k hk⟩))
  obtain ⟨A, c, rfl, hl, hC⟩ := Kd.R_reads hR
  exact ⟨A, c, by rw [blk_cell h.blk]; rfl, hl, hC⟩

set_option maxRecDepth 100000 in
theorem empty_calls (A : Option Addr) (n c : Nat) (w : World) : Calls Try.prog 76 #[.slice A n c] w fun e w' => e = .returned (.bool (decide ((n : Int) = 0))) ∧ Grows w w' := by
  by_cases h : (n : Int) = 0
  · have hn : n = 0 := by omega
    subst hn
    go_enter Try.func76, Try.ntmps76
    go_wp2
    go_ret
    exact ⟨rfl, Grows.refl _⟩
  · have hd : decide ((n : Int) = 0) = false := decide_eq_false h
    rw [hd]
    go_enter Try.func76, Try.ntmps76
    go_wp2
    go_ret
    exact ⟨by first | rfl | (simp; omega), Grows.refl _⟩

abbrev kRows : Kd (List Int) := Kd.slice 3 (Kd.int .i64)
set_option maxHeartbeats 2000000 in
set_option maxRecDepth 100000 in
theorem index_calls (A : Option Addr) (c : Nat) (l : List (List Int)) (w : World) (hC : Kd.C kRows w A l.length l) (hlen : l.length < 4611686018427387904) :
    Calls Try.prog 99 #[.slice A l.length c, .func (.func 76) #[] #[]] w fun e w' => ∃ r : Int, e = .returned (.int .i64 r) ∧ decide (0 ≤ r) = l.any (·.isEmpty) ∧ Grows w w' := by
  have HC := Aside0.mk hC
  clear hC
  go_enter Try.func99, Try.ntmps99
  go_wp2
  go_loopw [8] (fun iv wr => ∃ k : Nat, iv = .int .i64 k ∧ k ≤ l.length ∧ (∀ m (h : m < l.length), m < k → l[m] ≠ []) ∧ Grows w wr) (fun iv wr => l.length - (intOf iv).toNat)
  case atStart => exact ⟨0, rfl, Nat.zero_le _, fun m h hm => by omega, Grows.refl _⟩
  case round =>
    obtain ⟨k, rfl, hk, hn, hg⟩ := hrel
    have HG := Aside0.mk (And.intro hn hg)
    clear hn hg
    by_cases hlt : k < l.length
    · obtain ⟨ad, A1, c1, rfl, hx, hl1, hi1⟩ := at_L1 (Kd.C_below HC.out HG.out.2.below) (k : Int) (by omega) (by omega)
      have er : rd_L1 l (k : Int) = l[k] := by unfold rd_L1; simp [hlt]
      rw [er] at hx hl1 hi1
      rw [Int.toNat_natCast] at hx
      have HX := Aside0.mk (And.intro hl1 hi1)
      clear hl1 hi1
      by_cases he : ((l[k].length : Nat) : Int) = 0
      · have hd : decide (((l[k].length : Nat) : Int) = 0) = true := decide_eq_true he
        have HE := Aside0.mk he
        clear he
        go_wp2_with ((go_at_call 76; refine (empty_calls _ _ _ _).mono ?_; rintro e w2 ⟨rfl, hg2⟩; have G2 := Aside0.mk hg2; clear hg2; rw [hd]))
        go_ret
        refine ⟨_, rfl, ?_, HG.out.2.trans G2.out⟩
        have h0 : l[k] = [] := List.length_eq_zero_iff.1 (by have := HE.out; omega)
        have h1 : l.any (·.isEmpty) = true := List.any_eq_true.2 ⟨l[k], List.getElem_mem _, by rw [h0]; rfl⟩
        rw [h1]
        simp
      · have hd : decide (((l[k].length : Nat) : Int) = 0) = false := decide_eq_false he
        have HE := Aside0.mk he
        clear he
        go_wp2_with ((go_at_call 76; refine (empty_calls _ _ _ _).mono ?_; rintro e w2 ⟨rfl, hg2⟩; have G2 := Aside0.mk hg2; clear hg2; rw [hd]))
        refine ⟨⟨k + 1, by go_num, by omega, fun m h hm => ?_, HG.out.2.trans G2.out⟩, by simp only [intOf]; omega⟩
        rcases Nat.lt_or_ge m k with h1 | h1
        · exact HG.out.1 m h h1
        · have : m = k := by omega
          subst this
          intro e
          have := HE.out
          rw [e] at this
          exact this rfl
    · have hkl : k = l.length := by omega
      go_wp2
      go_ret
      refine ⟨_, rfl, ?_, HG.out.2⟩
      have h1 : l.any (·.isEmpty) = false := by
        rw [List.any_eq_false]
        intro p hp
        obtain ⟨m, hm, rfl⟩ := List.getElem_of_mem hp
        have := HG.out.1 m hm (by omega)
        cases hq : l[m] with
        | nil => exact absurd hq this
        | cons _ _ => simp
      rw [h1]; rfl
set_option maxRecDepth 100000 in
theorem contains_calls (A : Option Addr) (c : Nat) (l : List (List Int)) (w : World) (hC : Kd.C kRows w A l.length l) (hlen : l.length < 4611686018427387904) :
    Calls Try.prog 75 #[.slice A l.length c, .func (.func 76) #[] #[]] w fun e w' => e = .returned (.bool (l.any (·.isEmpty))) ∧ Grows w w' := by
  have HC := Aside0.mk hC
  clear hC
  go_enter Try.func75, Try.ntmps75
  go_wp2_with ((go_at_call 99; refine (index_calls A c l _ HC.out hlen).mono ?_; rintro e w2 ⟨r, rfl, hr, hg2⟩; have G2 := Aside0.mk (And.intro hr hg2); clear hg2 hr))
  go_ret
  exact ⟨by rw [← G2.out.1]; rfl, G2.out.2⟩

/-- The patterns are added one by one. -/
def addAll : List S106 → Nat → List (List Int) → List S106
  | x, _, [] => x
  | x, k, p :: r => addAll (addT x k p) (k + 1) r
def trieOf (l : List (List Int)) : List S106 := addAll [z106] 0 l
def tsAll : List (List Int) → List (List Int) → List (List Int)
  | ts, [] => ts
  | ts, p :: r => tsAll (tsAdd ts [] p) r
/-- The texts of the nodes. -/
def textsOf (l : List (List Int)) : List (List Int) := tsAll [[]] l
/-- Which of the patterns are this text. -/
def endsF : Nat → List (List Int) → List Int → List Int
  | _, [], _ => []
  | k, p :: r, s => (if s = p then [(k : Int)] else []) ++ endsF (k + 1) r s
theorem addAll_snoc (r : List (List Int)) (p : List Int) : ∀ (x : List S106) (k : Nat), addAll x k (r ++ [p]) = addT (addAll x k r) (k + r.length : Nat) p := by
  induction r with
  | nil => intro x k; rfl
  | cons a r ih => intro x k; rw [List.cons_append, addAll, addAll, ih, List.length_cons, show k + 1 + r.length = k + (r.length + 1) by omega]
theorem sp0 : Sp [z106] [[]] := by
  refine ⟨rfl, by simp, rfl, ?_, ?_, ?_, ?_, ?_, ?_⟩
  · intro i y hy e he
    have : y = z106 := by
      have := List.mem_of_getElem? hy
      simpa using this
    subst this
    simp [z106] at he
  · intro i y s c _ _ h; simp at h
  · intro i y s hy hs
    have h1 : y = z106 := by have := List.mem_of_getElem? hy; simpa using this
    have h2 : s = [] := by have := List.mem_of_getElem? hs; simpa using this
    subst h1 h2; rfl
  · intro s c h; simp at h
  · intro y hy
    have : y = z106 := by simpa using hy
    subst this; exact List.Pairwise.nil
  · intro y hy
    have : y = z106 := by simpa using hy
    subst this; simp [z106]
theorem en0 : En [z106] [[]] (fun _ => []) := ⟨fun i y s hy hs => by
  have h1 : y = z106 := by have := List.mem_of_getElem? hy; simpa using this
  subst h1; rfl, fun _ _ => rfl⟩
/-- A trie of k patterns. -/
structure Tr (x : List S106) (ts : List (List Int)) (f : List Int → List Int) (k : Nat) : Prop where
  sp : Sp x ts
  en : En x ts f
  few : ∀ s, (f s).length ≤ k
theorem Tr.add {x : List S106} {ts : List (List Int)} {f : List Int → List Int} {k : Nat} (h : Tr x ts f k) (n : Int) (p : List Int) : Tr (addT x n p) (tsAdd ts [] p) (fun s => if s = p then f s ++ [n] else f s) (k + 1) := by
  refine ⟨(addT_sp h.sp n p).1, addT_en h.sp h.en n p, fun s => ?_⟩
  have := h.few s
  show (if s = p then f s ++ [n] else f s).length ≤ k + 1
  split
  · rw [List.length_append]; simp; omega
  · omega
theorem Tr.ends {x : List S106} {ts : List (List Int)} {f : List Int → List Int} {k : Nat} (h : Tr x ts f k) (y : S106) (hy : y ∈ x) : y.f4.length ≤ k := by
  obtain ⟨i, hi⟩ := List.getElem?_of_mem hy
  have hlt := (List.getElem?_eq_some_iff.1 hi).1
  have : i < ts.length := by rw [h.sp.len]; exact hlt
  rw [h.en.1 i y _ hi (List.getElem?_eq_getElem this)]
  exact h.few _
theorem Tr.all (r : List (List Int)) : ∀ (x : List S106) (ts : List (List Int)) (f : List Int → List Int) (k : Nat), Tr x ts f k → Tr (addAll x k r) (tsAll ts r) (fun s => f s ++ endsF k r s) (k + r.length) := by
  induction r with
  | nil => intro x ts f k h; exact ⟨h.sp, ⟨fun i y s hy hs => by rw [h.en.1 i y s hy hs]; simp [endsF], fun s hs => by show f s ++ endsF k [] s = []; rw [h.en.2 s hs]; rfl⟩, fun s => by simpa [endsF] using h.few s⟩
  | cons p r ih =>
    intro x ts f k h
    have := ih _ _ _ _ (h.add k p)
    rw [addAll, tsAll]
    have e : (fun s => (if s = p then f s ++ [(k : Int)] else f s) ++ endsF (k + 1) r s) = fun s => f s ++ endsF k (p :: r) s := by
      funext s
      rw [endsF]
      split <;> simp
    rw [e] at this
    exact ⟨this.sp, this.en, fun s => by have h9 : (f s ++ endsF k (p :: r) s).length ≤ k + 1 + r.length := this.few s; rw [List.length_cons]; omega⟩
theorem tr0 : Tr [z106] [[]] (fun _ => []) 0 := ⟨sp0, en0, fun _ => Nat.le_refl _⟩
theorem trie_tr (l : List (List Int)) : Tr (trieOf l) (textsOf l) (fun s => endsF 0 l s) l.length := by
  have := Tr.all l _ _ _ _ tr0
  simpa [trieOf, textsOf] using this
def total (l : List (List Int)) : Nat := (l.map List.length).sum
theorem total_snoc (l : List (List Int)) (p : List Int) : total (l ++ [p]) = total l + p.length := by simp [total]
theorem addAll_len (r : List (List Int)) : ∀ (x : List S106) (ts : List (List Int)) (k : Nat), Sp x ts → (addAll x k r).length ≤ x.length + total r := by
  induction r with
  | nil => intro x ts k h; simp [addAll, total]
  | cons p r ih =>
    intro x ts k h
    have h1 := addT_sp h k p
    have := ih _ _ (k + 1) h1.1
    rw [addAll]
    simp [total] at this ⊢
    omega
theorem Tr.good {x : List S106} {ts : List (List Int)} {f : List Int → List Int} {k : Nat} (h : Tr x ts f k) (hk : k ≤ 1000000) (hx : x.length < 4611686018427387904) : Good x := fun y hy => ⟨h.sp.rise y hy, by have := h.sp.few y hy; omega, by have := h.ends y hy; omega⟩

theorem total_take (l : List (List Int)) (j : Nat) (hj : j < l.length) : total (l.take (j + 1)) = total (l.take j) + l[j].length := by
  rw [← List.take_append_getElem hj, total_snoc]
theorem total_le (l : List (List Int)) (j : Nat) : total (l.take j) ≤ total l := by
  have h : ∀ a b : List (List Int), total (a ++ b) = total a + total b := fun a b => by simp [total]
  have := h (l.take j) (l.drop j)
  rw [List.take_append_drop] at this
  omega
theorem kRows_at {w : World} {A : Option Addr} {l : List (List Int)} (h : Kd.C kRows w A l.length l) (j : Nat) (hj : j < l.length) : ∃ ad A1 c1, A = some ad ∧ w.cell? (ad.add j) = some (.slice A1 l[j].length c1) ∧ l[j].length ≤ c1 ∧ Kd.C (Kd.int .i64) w A1 l[j].length l[j] := by
  obtain ⟨ad, A1, c1, rfl, hx, hl1, hi1⟩ := at_L1 h (j : Int) (by omega) (by omega)
  have er : rd_L1 l (j : Int) = l[j] := by unfold rd_L1; simp [hj]
  rw [er] at hx hl1 hi1
  rw [Int.toNat_natCast] at hx
  exact ⟨ad, A1, c1, rfl, hx, hl1, hi1⟩
theorem bld0 (w : World) (base g h : Nat) (hh : w.heap[h]? = some (.cells #[.int .i64 0, .int .i64 0, .int .i64 0, .slice none 0 0, .slice none 0 0] 106 (0, 0))) (hg : w.heap[g]? = some (.cells #[.slice (some ⟨h, 0, none⟩) 1 1] 96 (0, 0))) (hb : base ≤ g) (hb2 : base ≤ h) :
    Bld w base g (.slice (some ⟨h, 0, none⟩) 1 1) [z106] [(.slice none 0 0, .slice none 0 0)] := by
  refine ⟨hg, hb, rfl, ⟨rfl, .inr ⟨h, 1, _, rfl, hb2, hh, Nat.le_refl _, by decide, rfl, rfl⟩⟩, ?_, ?_⟩
  · intro i y p hy hp
    have h1 : y = z106 := by have := List.mem_of_getElem? hy; simpa using this
    have h2 : p = (.slice none 0 0, .slice none 0 0) := by have := List.mem_of_getElem? hp; simpa using this
    subst h1 h2
    exact ⟨own_nil _ _ _ _, own_nil _ _ _ _⟩
  · intro i j p q hij hp hq
    have h1 : p = (.slice none 0 0, .slice none 0 0) := by have := List.mem_of_getElem? hp; simpa using this
    subst h1
    exact ⟨.inl rfl, .inl rfl⟩

set_option maxHeartbeats 4000000 in
set_option maxRecDepth 100000 in
theorem new_calls (A : Option Addr) (c : Nat) (l : List (List Int)) (w : World) (hC : Kd.C kRows w A l.length l) (hlen : l.length ≤ 65536) (htot : total l ≤ 1000000) (he : l.any (·.isEmpty) = false) :
    Calls Try.prog 36 #[.slice A l.length c] w fun e w' => ∃ g, e = .returned (.tuple #[.pointer (some ⟨g, 0, none⟩), .int .i64 0]) ∧ TrieAt w' ⟨g, 0, none⟩ (trieOf l) ∧ Go.RowKit.Below w.heap.size w w' := by
  have HC := Aside0.mk (And.intro hC he)
  clear hC he
  go_enter Try.func36, Try.ntmps36
  go_wp2
  go_loopw [4, 12] (fun av iv wr => wr = w ∧ ∃ k : Nat, iv = .int .i64 k ∧ k ≤ l.length ∧ av = .int .i64 (total (l.take k) : Nat)) (fun av iv wr => l.length - (intOf iv).toNat)
  case atStart => exact ⟨rfl, 0, rfl, Nat.zero_le _, rfl⟩
  case round =>
    obtain ⟨hwr, k, rfl, hk, rfl⟩ := hrel
    have hwr2 := hwr.symm
    clear hwr
    subst hwr2
    have t1 := total_le l k
    by_cases hlt : k < l.length
    · obtain ⟨ad, A1, c1, rfl, hx, -, -⟩ := kRows_at HC.out.1 k hlt
      have t2 := total_le l (k + 1)
      have t3 := total_take l k hlt
      rw [t3] at t2
      generalize total (l.take k) = T at *
      have e1 : IntKind.i64.wrap ((T : Int) + (l[k].length : Int)) = ((T + l[k].length : Nat) : Int) := by rw [IntWalk.i64_in _ (by omega)]; omega
      go_wp2
      refine ⟨⟨trivial, k + 1, by go_num, by omega, ?_⟩, by simp only [intOf]; omega⟩
      rw [t3]
      first | rfl | (simp; done) | go_num
    · have hkl : k = l.length := by omega
      have d1 : decide ((65536 : Int) < (l.length : Int)) = false := decide_eq_false (by omega)
      rw [hkl, List.take_length]
      have d2 : decide ((1000000 : Int) < (total l : Int)) = false := decide_eq_false (by omega)
      generalize hT : total l = T at *
      obtain ⟨i0, hi0, hz0, hs0, hb0⟩ := info_parts info106
      have hmk : ∀ W : World, (Instr.makeSlice 94 (.int .i64 1) (.int .i64 1)).run Try.prog W = .ok (.slice (some ⟨W.heap.size, 0, none⟩) 1 1) (W.alloc (.cells #[.int .i64 0, .int .i64 0, .int .i64 0, .slice none 0 0, .slice none 0 0] 106)) := fun W => by
        have := run_make W 94 106 i0 (.agg #[.int .i64 0, .int .i64 0, .int .i64 0, .slice none 0 0, .slice none 0 0]) Try.underlying94 hi0 hz0 .i64 .i64 1 1 (by omega) (by omega) (by rw [hb0]; omega) (by omega)
        rw [hs0] at this
        rw [show madeCells (Value.agg #[.int .i64 0, .int .i64 0, .int .i64 0, .slice none 0 0, .slice none 0 0]).cells (Int.toNat 1 * 5) = #[.int .i64 0, .int .i64 0, .int .i64 0, .slice none 0 0, .slice none 0 0] from by first | rfl | kernel_rfl] at this
        exact this
      go_wp2_with ((go_at_call 75; refine (contains_calls A c l _ HC.out.1 (by omega)).mono ?_; rintro e w2 ⟨rfl, hg2⟩; have G2 := Aside0.mk hg2; clear hg2; rw [HC.out.2]))
      obtain ⟨w3, hw3⟩ : ∃ w3, w3 = (w2.alloc (.cells #[.int .i64 0, .int .i64 0, .int .i64 0, .slice none 0 0, .slice none 0 0] 106)).alloc (.cells #[.slice (some ⟨w2.heap.size, 0, none⟩) 1 1] 96) := ⟨_, rfl⟩
      rw [← hw3]
      have hb2 : w.heap.size ≤ w2.heap.size := G2.out.below.size
      have hB0 : Bld w3 w.heap.size (w2.heap.size + 1) (.slice (some ⟨w2.heap.size, 0, none⟩) 1 1) [z106] [(.slice none 0 0, .slice none 0 0)] := by
        refine bld0 w3 w.heap.size (w2.heap.size + 1) w2.heap.size ?_ ?_ (by omega) hb2
        · rw [hw3]; exact (Below.heap_alloc _ _ _ (by simp)).trans (heap_alloc_new _ _)
        · have := heap_alloc_new (w2.alloc (.cells #[.int .i64 0, .int .i64 0, .int .i64 0, .slice none 0 0, .slice none 0 0] 106)) (.cells #[.slice (some ⟨w2.heap.size, 0, none⟩) 1 1] 96)
          rw [World.size_alloc] at this
          rw [hw3]; exact this
      have hBW0 : Go.RowKit.Below w.heap.size w w3 := by
        rw [hw3]
        exact ((G2.out.alloc _).alloc _).below
      have H0 := Aside0.mk (And.intro hB0 hBW0)
      clear hB0 hBW0 hw3 hi0 hz0 hs0 hb0 hmk
      go_loopw [37] (fun iv wq => ∃ (k : Nat) (vn : Value) (L : List (Value × Value)), iv = .int .i64 k ∧ k ≤ l.length ∧ Bld wq w.heap.size (w2.heap.size + 1) vn (addAll [z106] 0 (l.take k)) L ∧ Go.RowKit.Below w.heap.size w wq) (fun iv wq => l.length - (intOf iv).toNat)
      case atStart => exact ⟨0, _, _, rfl, Nat.zero_le _, H0.out.1, H0.out.2⟩
      case round =>
        obtain ⟨k, vn, L, rfl, hk, hB, hBW⟩ := hrel
        have HB := Aside0.mk (And.intro hB hBW)
        clear hB hBW
        by_cases hlt : k < l.length
        · obtain ⟨ad, A1, c1, rfl, hx, hl1, hi1⟩ := kRows_at HC.out.1 k hlt
          replace hx := cell_below HB.out.2 hx
          have HX := Aside0.mk hi1
          have htr := Tr.all (l.take k) _ _ _ _ tr0
          have hln := addAll_len (l.take k) [z106] [[]] 0 sp0
          have ht1 := total_le l (k + 1)
          have ht2 := total_take l k hlt
          have HT := Aside0.mk htr
          clear htr hi1
          have hsz : (addAll [z106] 0 (l.take k)).length + l[k].length ≤ 1000000000 := by simp at hln; omega
          clear hln ht1 ht2
          go_wp2_with ((go_at_call 77; go_loud (refine (add_calls (w2.heap.size + 1) vn _ L _ k A1 c1 l[k] w _ HB.out.1 HT.out.sp HB.out.2 HX.out (fun y hy => by have := HT.out.ends y hy; simp at this; omega) hsz).mono ?_); rintro e w5 ⟨rfl, vn5, L5, hB5, hBW5⟩; have H5 := Aside0.mk (And.intro hB5 hBW5); clear hB5 hBW5))
          refine ⟨⟨k + 1, vn5, L5, by go_num, by omega, ?_, H5.out.2⟩, by simp only [intOf]; omega⟩
          have := H5.out.1
          rw [← List.take_append_getElem hlt, addAll_snoc]
          simpa [Nat.min_eq_left (Nat.le_of_lt hlt)] using this
        · have hkl' : k = l.length := by omega
          go_wp2
          go_ret2
          have := HB.out.1
          rw [hkl', List.take_length] at this
          exact ⟨_, rfl, this.trie, HB.out.2⟩
set_option maxHeartbeats 4000000 in
set_option maxRecDepth 100000 in
theorem new_empty_calls (A : Option Addr) (c : Nat) (l : List (List Int)) (w : World) (hC : Kd.C kRows w A l.length l) (hlen : l.length ≤ 65536) (htot : total l ≤ 1000000) (he : l.any (·.isEmpty) = true) :
    Calls Try.prog 36 #[.slice A l.length c] w fun e w' => e = .returned (.tuple #[.pointer none, .int .i64 37]) ∧ Go.RowKit.Below w.heap.size w w' := by
  have HC := Aside0.mk (And.intro hC he)
  clear hC he
  go_enter Try.func36, Try.ntmps36
  go_wp2
  go_loopw [4, 12] (fun av iv wr => wr = w ∧ ∃ k : Nat, iv = .int .i64 k ∧ k ≤ l.length ∧ av = .int .i64 (total (l.take k) : Nat)) (fun av iv wr => l.length - (intOf iv).toNat)
  case atStart => exact ⟨rfl, 0, rfl, Nat.zero_le _, rfl⟩
  case round =>
    obtain ⟨hwr, k, rfl, hk, rfl⟩ := hrel
    have hwr2 := hwr.symm
    clear hwr
    subst hwr2
    have t1 := total_le l k
    by_cases hlt : k < l.length
    · obtain ⟨ad, A1, c1, rfl, hx, -, -⟩ := kRows_at HC.out.1 k hlt
      have t2 := total_le l (k + 1)
      have t3 := total_take l k hlt
      rw [t3] at t2
      generalize total (l.take k) = T at *
      have e1 : IntKind.i64.wrap ((T : Int) + (l[k].length : Int)) = ((T + l[k].length : Nat) : Int) := by rw [IntWalk.i64_in _ (by omega)]; omega
      go_wp2
      refine ⟨⟨trivial, k + 1, by go_num, by omega, ?_⟩, by simp only [intOf]; omega⟩
      rw [t3]
      first | rfl | (simp; done) | go_num
    · have hkl : k = l.length := by omega
      have d1 : decide ((65536 : Int) < (l.length : Int)) = false := decide_eq_false (by omega)
      rw [hkl, List.take_length]
      have d2 : decide ((1000000 : Int) < (total l : Int)) = false := decide_eq_false (by omega)
      generalize hT : total l = T at *
      go_wp2_with ((go_at_call 75; refine (contains_calls A c l _ HC.out.1 (by omega)).mono ?_; rintro e w2 ⟨rfl, hg2⟩; have G2 := Aside0.mk hg2; clear hg2; rw [HC.out.2]))
      go_ret2
      exact ⟨rfl, G2.out.below⟩
end Go.Proofs.Ytgfmplhpoblleaa.FailW
end
section
-- printed by the kit's print.py over several roots (printroots.sh): no hand has typed this
namespace Go.Proofs.Ytgfmplhpoblleaa.PFB
open Go.RowKit Go.Proofs.YtgfmplhpoblleaaW.PrintWords Go.Proofs.YtgfmplhpoblleaaW.PrintLast Go.Proofs.YtgfmplhpoblleaaW.PrintMore Go.Proofs.Ytgfmplhpoblleaa.PRank
attribute [local go_sem] max2_int min2_int max_two min_two max_three min_three max_four min_four   -- for this text's walks alone
set_option linter.unusedVariables false
set_option linter.unusedSimpArgs false

/-! ### paronymref23_Fail: function 44 -/
def paronymref23_Fail.f (k : Nat) (l0 : List (List Int)) (a1 : Int) : Option (Int) := if a1 ≤ 0 then (some 0) else (if a1 ≥ (l0.length : Int) then (some 0) else (if 0 ≤ a1 then (if a1 < (l0.length : Int) then ((paronymref23_Longest.f k l0 (rd_L1 l0 a1) 1).bind fun t133 => (some t133)) else (none)) else (none)))
theorem paronymref23_Fail.mono : ∀ a0 a1 k, LeO (paronymref23_Fail.f k a0 a1) (paronymref23_Fail.f (k + 1) a0 a1) := by
  intro a0 a1 k
  unfold paronymref23_Fail.f
  repeat' first
      | (with_reducible exact paronymref23_Longest.mono _ _ _ _)
      | (with_reducible exact LeO.refl _)
      | (with_reducible exact LeO.none _)
      | (with_reducible refine LeO.ite ?_ ?_)
      | (with_reducible refine LeO.bind ?_ (fun _ => ?_))
      | exact paronymref23_Longest.mono _ _ _ _
      | exact LeO.none _
      | refine LeO.ite ?_ ?_
      | refine LeO.bind ?_ (fun _ => ?_)
set_option maxHeartbeats 8000000 in
set_option maxRecDepth 100000 in
theorem paronymref23_Fail.calls (k : Nat) (A0 : Option Addr) (c0 : Nat) (l0 : List (List Int)) (a1 : Int) (r : Int) (w : World) (hr0 : Kd.C (Kd.slice 3 (Kd.int .i64)) w A0 l0.length l0) (hc0 : l0.length ≤ c0) (h : paronymref23_Fail.f k l0 a1 = some r) :
    Calls Try.prog 44 #[.slice A0 l0.length c0, .int .i64 a1] w fun e w' => e = .returned (.int .i64 r) ∧ Drawn0 w w' := by
  have HR0 := Aside0.mk hr0
  have HC0 := Aside0.mk hc0
  clear hr0 hc0
  have H : (if a1 ≤ 0 then (some 0) else (if a1 ≥ (l0.length : Int) then (some 0) else (if 0 ≤ a1 then (if a1 < (l0.length : Int) then ((paronymref23_Longest.f k l0 (rd_L1 l0 a1) 1).bind fun t133 => (some t133)) else (none)) else (none)))) = some r := h
  clear h
  by_cases c3 : a1 ≤ 0
  · rw [if_pos c3] at H
    have c3b0 : decide (a1 ≤ 0) = true := decide_eq_true c3
    clear c3
    obtain rfl := Option.some.inj H
    go_enter Try.func44, Try.ntmps44
    go_wp2
    go_ret
    exact ⟨by first | rfl | (simp; done) | (simp [*]; done), by repeat (first | exact Drawn0.refl _ | apply Drawn0.step)⟩
  · rw [if_neg c3] at H
    have c3b0 : decide (a1 ≤ 0) = false := decide_eq_false c3
    clear c3
    by_cases c4 : a1 ≥ (l0.length : Int)
    · rw [if_pos c4] at H
      have c4b0 : decide ((l0.length : Int) ≤ a1) = true := decide_eq_true c4
      clear c4
      obtain rfl := Option.some.inj H
      go_enter Try.func44, Try.ntmps44
      go_wp2
      go_ret
      exact ⟨by first | rfl | (simp; done) | (simp [*]; done), by repeat (first | exact Drawn0.refl _ | apply Drawn0.step)⟩
    · rw [if_neg c4] at H
      have c4b0 : decide ((l0.length : Int) ≤ a1) = false := decide_eq_false c4
      clear c4
      by_cases c5 : 0 ≤ a1
      · rw [if_pos c5] at H
        have c5b0 : decide (0 ≤ a1) = true := decide_eq_true c5
        clear c5
        by_cases c6 : a1 < (l0.length : Int)
        · rw [if_pos c6] at H
          have c6b0 : decide (a1 < (l0.length : Int)) = true := decide_eq_true c6
          clear c6
          replace H := Option.bind_eq_some_iff.mp H
          obtain ⟨t133, A70, H⟩ := H
          replace H : (some t133) = some r := H
          have A7 := Aside0.mk A70
          clear A70
          obtain rfl := Option.some.inj H
          have p132 : 0 ≤ (a1 : Int) := of_decide_eq_true (by first | (with_reducible assumption) | assumption)
          have q132 : a1 < (l0.length : Int) := of_decide_eq_true (by first | (with_reducible assumption) | assumption)
          obtain ⟨ad132, A132_0, c132_0, e132, hx132_0, hl132_0, hi132_0⟩ := at_L1 HR0.out a1 p132 q132
          cases e132
          have HR132_0 := Aside0.mk hi132_0
          have HC132_0 := Aside0.mk hl132_0
          clear hi132_0 hl132_0
          replace p132 := eq_true p132
          replace q132 := eq_true q132
          go_enter Try.func44, Try.ntmps44
          go_wp2_with (first | ((with_reducible refine gate_callee (f := 85) rfl ?_); refine goesL_ (some 18) rfl rfl Try.func85 (by kernel_rfl) rfl #[.slice (some ad132) l0.length c0, .slice A132_0 (rd_L1 l0 a1).length c132_0, .int .i64 1] rfl (by (try simp only [List.map_toArray, List.map_cons, List.map_nil]); first | done | rfl | (simp only [List.length_drop, List.length_take]; rfl)) ?_; (with_reducible refine (paronymref23_Longest.calls k _ _ l0 _ _ (rd_L1 l0 a1) 1 t133 _ ?side1 ?side2 ?side3 ?side4 A7.out).mono ?_); (case side1 => repeat (first | exact HR0.out | (with_reducible refine Kd.C_alloc ?_ _) | (with_reducible refine Kd.C_drewN ?_ _) | (with_reducible refine Kd.C_drew ?_))); (case side2 => exact HC0.out); (case side3 => repeat (first | exact HR132_0.out | (with_reducible refine Kd.C_alloc ?_ _) | (with_reducible refine Kd.C_drewN ?_ _) | (with_reducible refine Kd.C_drew ?_))); (case side4 => exact HC132_0.out); rintro e w' ⟨rfl, ⟨nd, rfl⟩⟩; refine ⟨_, rfl, ?_⟩))
          go_ret
          exact ⟨by first | rfl | (simp; done) | (simp [*]; done), by repeat (first | exact Drawn0.refl _ | apply Drawn0.step)⟩
        · rw [if_neg c6] at H
          exact absurd H (by simp)
      · rw [if_neg c5] at H
        exact absurd H (by simp)

/-! ### paronymref23_Go: function 40 -/
mutual
def paronymref23_Go.j0 : Nat → List (List Int) → Int → Int → Bool → Option (Int × Int)
  | 0, _, _, _, _ => none
  | k + 1, x0, x1, x2, x18 => if x18 = true then (some (0, 0)) else ((some (([] : List Int) : List Int)).bind fun y134 => (if 0 ≤ x1 then (if x1 < (x0.length : Int) then (if y134.length + (rd_L1 x0 x1).length < 17592186044416 then ((some (y134 ++ (rd_L1 x0 x1) : List Int)).bind fun y138 => (if y138.length < 17592186044416 then ((paronymref23_Longest.f k x0 (y138 ++ [x2]) 0).bind fun t144 => (paronymref23_Go.l0 k x0 x2 t144 1 x1)) else (none))) else (none)) else (none)) else (none)))
def paronymref23_Go.l0 : Nat → List (List Int) → Int → Int → Int → Int → Option (Int × Int)
  | 0, _, _, _, _, _ => none
  | k + 1, x0, x2, x8, x9, x10 => if x10 > 0 then ((some (([] : List Int) : List Int)).bind fun y145 => (if 0 ≤ x10 then (if x10 < (x0.length : Int) then (if y145.length + (rd_L1 x0 x10).length < 17592186044416 then ((some (y145 ++ (rd_L1 x0 x10) : List Int)).bind fun y149 => (if y149.length < 17592186044416 then ((paronymref22_Find.f k x0 (y149 ++ [x2])).bind fun t155 => (if t155 < 0 then ((paronymref23_Fail.f k x0 x10).bind fun t156 => (paronymref23_Go.l0 k x0 x2 x8 (wrap64 (x9 + 1)) t156)) else (some (x8, x9)))) else (none))) else (none)) else (none)) else (none))) else (some (x8, x9))
end
def paronymref23_Go.f (k : Nat) (l0 : List (List Int)) (a1 : Int) (a2 : Int) : Option (Int × Int) := if a1 < 0 then (paronymref23_Go.j0 k l0 a1 a2 true) else (paronymref23_Go.j0 k l0 a1 a2 (decide (a1 ≥ (l0.length : Int))))
theorem paronymref23_Go.mono_l : ∀ k, (∀ y0 y1 y2 y3, LeO (paronymref23_Go.j0 k y0 y1 y2 y3) (paronymref23_Go.j0 (k + 1) y0 y1 y2 y3)) ∧ (∀ y0 y1 y2 y3 y4, LeO (paronymref23_Go.l0 k y0 y1 y2 y3 y4) (paronymref23_Go.l0 (k + 1) y0 y1 y2 y3 y4))
  | 0 => ⟨fun _ _ _ _ r h => by simp [paronymref23_Go.j0] at h, fun _ _ _ _ _ r h => by simp [paronymref23_Go.l0] at h⟩
  | k + 1 => by
    obtain ⟨ih0, ih1⟩ := paronymref23_Go.mono_l k
    refine ⟨?_, ?_⟩
    · intro y0 y1 y2 y3
      unfold paronymref23_Go.j0
      repeat' first
      | (with_reducible exact ih0 _ _ _ _)
      | (with_reducible exact ih1 _ _ _ _ _)
      | (with_reducible exact paronymref22_Find.mono _ _ _)
      | (with_reducible exact paronymref23_Fail.mono _ _ _)
      | (with_reducible exact paronymref23_Longest.mono _ _ _ _)
      | (with_reducible exact LeO.refl _)
      | (with_reducible exact LeO.none _)
      | (with_reducible refine LeO.ite ?_ ?_)
      | (with_reducible refine LeO.bind ?_ (fun _ => ?_))
      | exact ih0 _ _ _ _
      | exact ih1 _ _ _ _ _
      | exact paronymref22_Find.mono _ _ _
      | exact paronymref23_Fail.mono _ _ _
      | exact paronymref23_Longest.mono _ _ _ _
      | exact LeO.none _
      | refine LeO.ite ?_ ?_
      | refine LeO.bind ?_ (fun _ => ?_)
    · intro y0 y1 y2 y3 y4
      unfold paronymref23_Go.l0
      repeat' first
      | (with_reducible exact ih0 _ _ _ _)
      | (with_reducible exact ih1 _ _ _ _ _)
      | (with_reducible exact paronymref22_Find.mono _ _ _)
      | (with_reducible exact paronymref23_Fail.mono _ _ _)
      | (with_reducible exact paronymref23_Longest.mono _ _ _ _)
      | (with_reducible exact LeO.refl _)
      | (with_reducible exact LeO.none _)
      | (with_reducible refine LeO.ite ?_ ?_)
      | (with_reducible refine LeO.bind ?_ (fun _ => ?_))
      | exact ih0 _ _ _ _
      | exact ih1 _ _ _ _ _
      | exact paronymref22_Find.mono _ _ _
      | exact paronymref23_Fail.mono _ _ _
      | exact paronymref23_Longest.mono _ _ _ _
      | exact LeO.none _
      | refine LeO.ite ?_ ?_
      | refine LeO.bind ?_ (fun _ => ?_)
theorem paronymref23_Go.mono : ∀ a0 a1 a2 k, LeO (paronymref23_Go.f k a0 a1 a2) (paronymref23_Go.f (k + 1) a0 a1 a2) := by
  intro a0 a1 a2 k
  obtain ⟨ih0, ih1⟩ := paronymref23_Go.mono_l k
  unfold paronymref23_Go.f
  repeat' first
      | (with_reducible exact ih0 _ _ _ _)
      | (with_reducible exact ih1 _ _ _ _ _)
      | (with_reducible exact paronymref22_Find.mono _ _ _)
      | (with_reducible exact paronymref23_Fail.mono _ _ _)
      | (with_reducible exact paronymref23_Longest.mono _ _ _ _)
      | (with_reducible exact LeO.refl _)
      | (with_reducible exact LeO.none _)
      | (with_reducible refine LeO.ite ?_ ?_)
      | (with_reducible refine LeO.bind ?_ (fun _ => ?_))
      | exact ih0 _ _ _ _
      | exact ih1 _ _ _ _ _
      | exact paronymref22_Find.mono _ _ _
      | exact paronymref23_Fail.mono _ _ _
      | exact paronymref23_Longest.mono _ _ _ _
      | exact LeO.none _
      | refine LeO.ite ?_ ?_
      | refine LeO.bind ?_ (fun _ => ?_)
set_option maxHeartbeats 8000000 in
set_option maxRecDepth 100000 in
theorem paronymref23_Go.calls (k : Nat) (A0 : Option Addr) (c0 : Nat) (l0 : List (List Int)) (a1 : Int) (a2 : Int) (r1 : Int) (r2 : Int) (w : World) (hr0 : Kd.C (Kd.slice 3 (Kd.int .i64)) w A0 l0.length l0) (hc0 : l0.length ≤ c0) (h : paronymref23_Go.f k l0 a1 a2 = some (r1, r2)) :
    Calls Try.prog 40 #[.slice A0 l0.length c0, .int .i64 a1, .int .i64 a2] w fun e w' => e = .returned (.tuple #[.int .i64 r1, .int .i64 r2]) ∧ Below w.heap.size w w' := by
  have HR0 := Aside0.mk hr0
  have HC0 := Aside0.mk hc0
  clear hr0 hc0
  have HB := Aside0.mk (Below.refl w.heap.size w)
  have H : (if a1 < 0 then (paronymref23_Go.j0 k l0 a1 a2 true) else (paronymref23_Go.j0 k l0 a1 a2 (decide (a1 ≥ (l0.length : Int))))) = some (r1, r2) := h
  clear h
  have HC4 := Aside0.mk H
  clear H
  go_enter Try.func40, Try.ntmps40
  go_upto_region 1 with (fail)
  go_cut [18] (fun v18 wc => ∃ (kq : Nat) (x18_3 : Bool), v18 = .bool x18_3 ∧ Aside0 (paronymref23_Go.j0 kq l0 a1 a2 x18_3 = some (r1, r2)) ∧ Aside0 (kq ≤ k) ∧ Aside0 (Below w.heap.size w wc))
  case first =>
    have H := HC4.out
    clear HC4
    by_cases c5 : a1 < 0
    · rw [if_pos c5] at H
      have c5b0 : decide (a1 < 0) = true := decide_eq_true c5
      clear c5
      (first | rw [c5b0] | (simp only [i64_w, i32_w]; rw [c5b0]) | skip)
      have H' := Aside0.mk H
      clear H
      go_wp2
      go_meet
      case rel => exact ⟨_, (true), (by first | rfl | (simp; done) | (simp [*]; done)), H', ⟨by first | omega | exact Nat.le_refl _⟩, ⟨by repeat (first | (with_reducible first | exact HB.out | apply below_alloc | apply pw_below_drewN | apply below_drew1) | exact HB.out)⟩⟩
    · rw [if_neg c5] at H
      have c5b0 : decide (a1 < 0) = false := decide_eq_false c5
      clear c5
      (first | rw [c5b0] | (simp only [i64_w, i32_w]; rw [c5b0]) | skip)
      have H' := Aside0.mk H
      clear H
      go_wp2
      go_meet
      case rel => exact ⟨_, (decide (a1 ≥ (l0.length : Int))), (by first | rfl | (simp; done) | (simp [*]; done)), H', ⟨by first | omega | exact Nat.le_refl _⟩, ⟨by repeat (first | (with_reducible first | exact HB.out | apply below_alloc | apply pw_below_drewN | apply below_drew1) | exact HB.out)⟩⟩
  case rest =>
    clear HC4
    try clear p2
    try clear c4
    try clear c5
    try clear c5b0
    obtain ⟨kq, x18_3, rfl, HA, HJ3, HB⟩ := hcut
    cases kq with
    | zero => exact absurd HA.out (by simp [paronymref23_Go.j0])
    | succ kj3 =>
      have H := HA.out
      clear HA
      simp only [paronymref23_Go.j0] at H
      by_cases c6 : x18_3 = true
      · subst c6
        have H1 : (some (0, 0)) = some (r1, r2) := by rw [if_pos rfl] at H; exact H
        clear H
        have H := H1
        clear H1
        simp only [Option.some.injEq, Prod.mk.injEq] at H
        obtain ⟨rfl, rfl⟩ := H
        go_wp2
        go_ret2
        exact ⟨by first | rfl | (simp [errW_none, errW_some] <;> rfl) | (simp [*, errW_none, errW_some] <;> rfl), by repeat (first | (with_reducible first | exact HB.out | apply below_alloc | apply pw_below_drewN | apply below_drew1) | exact HB.out)⟩
      · replace c6 := Bool.eq_false_iff.mpr c6
        subst c6
        have H1 : ((some (([] : List Int) : List Int)).bind fun y134 => (if 0 ≤ a1 then (if a1 < (l0.length : Int) then (if y134.length + (rd_L1 l0 a1).length < 17592186044416 then ((some (y134 ++ (rd_L1 l0 a1) : List Int)).bind fun y138 => (if y138.length < 17592186044416 then ((paronymref23_Longest.f kj3 l0 (y138 ++ [a2]) 0).bind fun t144 => (paronymref23_Go.l0 kj3 l0 a2 t144 1 a1)) else (none))) else (none)) else (none)) else (none))) = some (r1, r2) := by rw [if_neg (show ¬ (false = true) by decide)] at H; exact H
        clear H
        have H := H1
        clear H1
        obtain ⟨y134, hy134⟩ : ∃ y_ : List Int, y_ = (([] : List Int)) := ⟨_, rfl⟩
        replace H : (if 0 ≤ a1 then (if a1 < (l0.length : Int) then (if y134.length + (rd_L1 l0 a1).length < 17592186044416 then ((some (y134 ++ (rd_L1 l0 a1) : List Int)).bind fun y138 => (if y138.length < 17592186044416 then ((paronymref23_Longest.f kj3 l0 (y138 ++ [a2]) 0).bind fun t144 => (paronymref23_Go.l0 kj3 l0 a2 t144 1 a1)) else (none))) else (none)) else (none)) else (none)) = some (r1, r2) := by first | (rw [hy134]; with_reducible exact H) | (have H2_ := (Option.bind_some _ _).symm.trans H; rw [hy134]; with_reducible exact H2_) | (have H2_ := (Option.bind_some _ _).symm.trans H; with_reducible exact H2_) | with_reducible exact H | (rw [hy134]; exact H) | exact H
        have Ny134 := Aside0.mk hy134
        clear hy134
        by_cases c7 : 0 ≤ a1
        · rw [if_pos c7] at H
          have c7b0 : decide (0 ≤ a1) = true := decide_eq_true c7
          clear c7
          by_cases c8 : a1 < (l0.length : Int)
          · rw [if_pos c8] at H
            have c8b0 : decide (a1 < (l0.length : Int)) = true := decide_eq_true c8
            clear c8
            by_cases c9 : y134.length + (rd_L1 l0 a1).length < 17592186044416
            · rw [if_pos c9] at H
              have LMc9 := Aside0.mk c9
              clear c9
              obtain ⟨y138, hy138⟩ : ∃ y_ : List Int, y_ = (y134 ++ (rd_L1 l0 a1)) := ⟨_, rfl⟩
              replace H : (if y138.length < 17592186044416 then ((paronymref23_Longest.f kj3 l0 (y138 ++ [a2]) 0).bind fun t144 => (paronymref23_Go.l0 kj3 l0 a2 t144 1 a1)) else (none)) = some (r1, r2) := by first | (rw [hy138]; with_reducible exact H) | (have H2_ := (Option.bind_some _ _).symm.trans H; rw [hy138]; with_reducible exact H2_) | (have H2_ := (Option.bind_some _ _).symm.trans H; with_reducible exact H2_) | with_reducible exact H | (rw [hy138]; exact H) | exact H
              have Ny138 := Aside0.mk hy138
              clear hy138
              by_cases c10 : y138.length < 17592186044416
              · rw [if_pos c10] at H
                have LMc10 := Aside0.mk c10
                clear c10
                obtain ⟨y141, hy141⟩ : ∃ y_ : List Int, y_ = (y138 ++ [a2]) := ⟨_, rfl⟩
                replace H : ((paronymref23_Longest.f kj3 l0 y141 0).bind fun t144 => (paronymref23_Go.l0 kj3 l0 a2 t144 1 a1)) = some (r1, r2) := by first | (rw [hy141]; with_reducible exact H) | (have H2_ := (Option.bind_some _ _).symm.trans H; rw [hy141]; with_reducible exact H2_) | (have H2_ := (Option.bind_some _ _).symm.trans H; with_reducible exact H2_) | with_reducible exact H | (rw [hy141]; exact H) | exact H
                have Ny141 := Aside0.mk hy141
                clear hy141
                replace H := Option.bind_eq_some_iff.mp H
                obtain ⟨t144, A110, H⟩ := H
                replace H : (paronymref23_Go.l0 kj3 l0 a2 t144 1 a1) = some (r1, r2) := H
                have A11 := Aside0.mk A110
                clear A110
                have H' := Aside0.mk H
                clear H
                go_wp2_with (first | ((with_reducible refine gate_dst (N := 20) rfl ?_); (try (refine gate_guard (by rfl) ?_; dsimp only)); refine Kd.R_lit (Kd.int .i64) _ 3 ?hg (N := 20) ?hd (xs := ([] : List Int)) (inner := []) (ok := fun _ => True) (okp := fun _ => True) ?hr ?hp (fun _ hk => hk) trivial (Below.refl _ _) (Nat.le_refl _) (by simp) ?_; (case hd => rfl); (case hg => rfl); (case hr => first | (go_simp; done) | (go_simp; rfl)); (case hp => exact (Reps.none _ _)); intro v135 w12 ho13 hb hg_ hnew_; clear hg_ hnew_; (first | rw [← Ny134.out] at ho13 | (simp only [Int.reduceToNat] at ho13; rw [← Ny134.out] at ho13)); have n0_ := Aside0.mk (Kd.R_lower ho13 (below_size (by repeat (first | (with_reducible first | exact HB.out | apply below_alloc | apply pw_below_drewN | apply below_drew1) | exact HB.out)))); have n1_ := Aside0.mk (below_step (by repeat (first | (with_reducible first | exact HB.out | apply below_alloc | apply pw_below_drewN | apply below_drew1) | exact HB.out)) hb); clear HB; have HO136 := n0_; have HB := n1_; clear n0_ n1_; clear hb ho13; have p137 : 0 ≤ (a1 : Int) := of_decide_eq_true (by first | (with_reducible assumption) | assumption); have q137 : a1 < (l0.length : Int) := of_decide_eq_true (by first | (with_reducible assumption) | assumption); obtain ⟨ad137, A137_0, c137_0, e137, hx137_0, hl137_0, hi137_0⟩ := at_L1 HR0.out a1 p137 q137; cases e137; replace hx137_0 := (HB.out.cell (World.block_lt_of_cell? w _ hx137_0)).trans hx137_0; have HR137_0 := Aside0.mk hi137_0; have HC137_0 := Aside0.mk hl137_0; clear hi137_0 hl137_0; replace p137 := eq_true p137; replace q137 := eq_true q137) | ((with_reducible refine gate_builtin (b := .append) (xs := #[.tmp 20, .tmp 24]) rfl ?_); (try (refine gate_guard (by rfl) ?_; dsimp only)); at_builtin; refine Kd.R_append_rows (Kd.int .i64) (w0 := w) w.heap.size rfl (.tmp 20) (.tmp 24) 23 3 (.int .i64 0) 8 rfl Try.underlying23 info3 rfl (by decide) (by omega) v135 y134 (rd_L1 l0 a1) _ _ _ (fun _ => True) (fun _ => False) rfl rfl ?aO ?aR (fun _ _ h => h) (fun _ h => h.elim) ?aF ?aB ?aS ?aL ?_; (case aR => repeat (first | exact (Kd.C_below HR137_0.out HB.out) | (with_reducible refine Kd.C_alloc ?_ _) | (with_reducible refine Kd.C_drewN ?_ _) | (with_reducible refine Kd.C_drew ?_))); (case aB => exact (by repeat (first | (with_reducible first | exact HB.out | apply below_alloc | apply pw_below_drewN | apply below_drew1) | exact HB.out))); (case aF => exact (fun _ _ => trivial)); (case aO => exact (by (with_reducible repeat (first | apply Kd.R_alloc | apply Kd.R_drewN | apply Kd.R_drew)); exact HO136.out)); (case aS => exact (below_size (by repeat (first | (with_reducible first | exact HB.out | apply below_alloc | apply pw_below_drewN | apply below_drew1) | exact HB.out)))); (case aL => have := LMc9.out; omega); intro v139 w14 ho hb hg hat; rw [← Ny138.out] at ho; have n0_ := Aside0.mk (hb); have n1_ := Aside0.mk (ho); clear HB; clear HO136; have HB := n0_; have HO140 := n1_; clear n0_ n1_; clear ho hb hg hat) | ((with_reducible refine gate_builtin (b := .append) (xs := #[.tmp 25, .tmp 27]) rfl ?_); (try (refine gate_guard (by rfl) ?_; dsimp only)); at_builtin; refine Kd.R_append (Kd.int .i64) (w0 := w) w.heap.size rfl (.tmp 25) (.tmp 27) 23 3 (.int .i64 0) 8 rfl Try.underlying23 info3 rfl (by decide) (by omega) v139 y138 a2 [.int .i64 a2] (fun _ => True) (fun _ => False) rfl rfl ?aP (fun _ hk => hk.elim) ?aF ?aO ?aB ?aS ?aL ?_; (case aP => exact rfl); (case aB => exact (by repeat (first | (with_reducible first | exact HB.out | apply below_alloc | apply pw_below_drewN | apply below_drew1) | exact HB.out))); (case aF => exact (fun _ _ => trivial)); (case aO => exact (by (with_reducible repeat (first | apply Kd.R_alloc | apply Kd.R_drewN | apply Kd.R_drew)); exact HO140.out)); (case aS => exact (below_size (by repeat (first | (with_reducible first | exact HB.out | apply below_alloc | apply pw_below_drewN | apply below_drew1) | exact HB.out)))); (case aL => have := LMc10.out; omega); intro v142 w15 ho hb hg hat; rw [← Ny141.out] at ho; have n0_ := Aside0.mk (hb); have n1_ := Aside0.mk (ho); clear HB; clear HO140; have HB := n0_; have HO143 := n1_; clear n0_ n1_; clear ho hb hg hat; obtain ⟨Ao16, co16, eo16⟩ := Kd.R_slice HO143.out; subst eo16) | ((with_reducible refine gate_callee (f := 85) rfl ?_); refine goesL_ (some 29) rfl rfl Try.func85 (by kernel_rfl) rfl #[.slice (some ad137) l0.length c0, .slice Ao16 y141.length co16, .int .i64 0] rfl (by (try simp only [List.map_toArray, List.map_cons, List.map_nil]); first | done | rfl | (simp only [List.length_drop, List.length_take]; rfl)) ?_; (with_reducible refine (paronymref23_Longest.calls kj3 _ _ l0 _ _ y141 0 t144 _ ?side1 ?side2 ?side3 ?side4 A11.out).mono ?_); (case side1 => repeat (first | exact (Kd.C_below HR0.out HB.out) | (with_reducible refine Kd.C_alloc ?_ _) | (with_reducible refine Kd.C_drewN ?_ _) | (with_reducible refine Kd.C_drew ?_))); (case side2 => exact HC0.out); (case side3 => repeat (first | exact (Kd.R_reads' HO143.out).2.2 | (with_reducible refine Kd.C_alloc ?_ _) | (with_reducible refine Kd.C_drewN ?_ _) | (with_reducible refine Kd.C_drew ?_))); (case side4 => exact (Kd.R_reads' HO143.out).2.1); rintro e w' ⟨rfl, ⟨nd, rfl⟩⟩; refine ⟨_, rfl, ?_⟩))
                go_loopg [9, 10] kj3 (fun kq v9 v10 w' => ∃ (x9_2 : Int) (x10_2 : Int), v9 = .int .i64 x9_2 ∧ v10 = .int .i64 x10_2 ∧ Aside0 (paronymref23_Go.l0 kq l0 a2 t144 x9_2 x10_2 = some (r1, r2)) ∧ Aside0 (kq ≤ kj3) ∧ Aside0 (Below w.heap.size w w'))
                case atStart => exact ⟨(1), (a1), (by first | rfl | (simp; done) | (simp [*]; done)), (by first | rfl | (simp; done) | (simp [*]; done)), H', ⟨Nat.le_refl _⟩, ⟨by repeat (first | (with_reducible first | exact HB.out | apply below_alloc | apply pw_below_drewN | apply below_drew1) | exact HB.out)⟩⟩
                case round =>
                  clear H'
                  try clear c1
                  try clear p1
                  try clear q1
                  try clear hx1
                  try clear p2
                  try clear c4
                  try clear c5
                  try clear c5b0
                  try clear c6
                  try clear c7
                  try clear c7b0
                  try clear c8
                  try clear c8b0
                  try clear c9
                  try clear c10
                  try clear c13
                  try clear p13
                  try clear q13
                  try clear hx13
                  try clear hx137_0
                  try clear p137
                  try clear p2
                  try clear q137
                  obtain ⟨x9_2, x10_2, rfl, rfl, HA, HK2, HB⟩ := hrel
                  cases gk with
                  | zero => exact absurd HA.out (by simp [paronymref23_Go.l0])
                  | succ k2 =>
                    have H := HA.out
                    clear HA
                    simp only [paronymref23_Go.l0] at H
                    by_cases c17 : x10_2 > 0
                    · rw [if_pos c17] at H
                      have c17b0 : decide (0 < x10_2) = true := decide_eq_true c17
                      clear c17
                      obtain ⟨y145, hy145⟩ : ∃ y_ : List Int, y_ = (([] : List Int)) := ⟨_, rfl⟩
                      replace H : (if 0 ≤ x10_2 then (if x10_2 < (l0.length : Int) then (if y145.length + (rd_L1 l0 x10_2).length < 17592186044416 then ((some (y145 ++ (rd_L1 l0 x10_2) : List Int)).bind fun y149 => (if y149.length < 17592186044416 then ((paronymref22_Find.f k2 l0 (y149 ++ [a2])).bind fun t155 => (if t155 < 0 then ((paronymref23_Fail.f k2 l0 x10_2).bind fun t156 => (paronymref23_Go.l0 k2 l0 a2 t144 (wrap64 (x9_2 + 1)) t156)) else (some (t144, x9_2)))) else (none))) else (none)) else (none)) else (none)) = some (r1, r2) := by first | (rw [hy145]; with_reducible exact H) | (have H2_ := (Option.bind_some _ _).symm.trans H; rw [hy145]; with_reducible exact H2_) | (have H2_ := (Option.bind_some _ _).symm.trans H; with_reducible exact H2_) | with_reducible exact H | (rw [hy145]; exact H) | exact H
                      have Ny145 := Aside0.mk hy145
                      clear hy145
                      by_cases c18 : 0 ≤ x10_2
                      · rw [if_pos c18] at H
                        have c18b0 : decide (0 ≤ x10_2) = true := decide_eq_true c18
                        clear c18
                        by_cases c19 : x10_2 < (l0.length : Int)
                        · rw [if_pos c19] at H
                          have c19b0 : decide (x10_2 < (l0.length : Int)) = true := decide_eq_true c19
                          clear c19
                          by_cases c20 : y145.length + (rd_L1 l0 x10_2).length < 17592186044416
                          · rw [if_pos c20] at H
                            have LMc20 := Aside0.mk c20
                            clear c20
                            obtain ⟨y149, hy149⟩ : ∃ y_ : List Int, y_ = (y145 ++ (rd_L1 l0 x10_2)) := ⟨_, rfl⟩
                            replace H : (if y149.length < 17592186044416 then ((paronymref22_Find.f k2 l0 (y149 ++ [a2])).bind fun t155 => (if t155 < 0 then ((paronymref23_Fail.f k2 l0 x10_2).bind fun t156 => (paronymref23_Go.l0 k2 l0 a2 t144 (wrap64 (x9_2 + 1)) t156)) else (some (t144, x9_2)))) else (none)) = some (r1, r2) := by first | (rw [hy149]; with_reducible exact H) | (have H2_ := (Option.bind_some _ _).symm.trans H; rw [hy149]; with_reducible exact H2_) | (have H2_ := (Option.bind_some _ _).symm.trans H; with_reducible exact H2_) | with_reducible exact H | (rw [hy149]; exact H) | exact H
                            have Ny149 := Aside0.mk hy149
                            clear hy149
                            by_cases c21 : y149.length < 17592186044416
                            · rw [if_pos c21] at H
                              have LMc21 := Aside0.mk c21
                              clear c21
                              obtain ⟨y152, hy152⟩ : ∃ y_ : List Int, y_ = (y149 ++ [a2]) := ⟨_, rfl⟩
                              replace H : ((paronymref22_Find.f k2 l0 y152).bind fun t155 => (if t155 < 0 then ((paronymref23_Fail.f k2 l0 x10_2).bind fun t156 => (paronymref23_Go.l0 k2 l0 a2 t144 (wrap64 (x9_2 + 1)) t156)) else (some (t144, x9_2)))) = some (r1, r2) := by first | (rw [hy152]; with_reducible exact H) | (have H2_ := (Option.bind_some _ _).symm.trans H; rw [hy152]; with_reducible exact H2_) | (have H2_ := (Option.bind_some _ _).symm.trans H; with_reducible exact H2_) | with_reducible exact H | (rw [hy152]; exact H) | exact H
                              have Ny152 := Aside0.mk hy152
                              clear hy152
                              replace H := Option.bind_eq_some_iff.mp H
                              obtain ⟨t155, A220, H⟩ := H
                              replace H : (if t155 < 0 then ((paronymref23_Fail.f k2 l0 x10_2).bind fun t156 => (paronymref23_Go.l0 k2 l0 a2 t144 (wrap64 (x9_2 + 1)) t156)) else (some (t144, x9_2))) = some (r1, r2) := H
                              have A22 := Aside0.mk A220
                              clear A220
                              by_cases c23 : t155 < 0
                              · rw [if_pos c23] at H
                                have c23b0 : decide (t155 < 0) = true := decide_eq_true c23
                                clear c23
                                replace H := Option.bind_eq_some_iff.mp H
                                obtain ⟨t156, A240, H⟩ := H
                                replace H : (paronymref23_Go.l0 k2 l0 a2 t144 (wrap64 (x9_2 + 1)) t156) = some (r1, r2) := H
                                have A24 := Aside0.mk A240
                                clear A240
                                have H' := Aside0.mk H
                                clear H
                                go_wp2_with (first | ((with_reducible refine gate_dst (N := 35) rfl ?_); (try (refine gate_guard (by rfl) ?_; dsimp only)); refine Kd.R_lit (Kd.int .i64) _ 3 ?hg (N := 35) ?hd (xs := ([] : List Int)) (inner := []) (ok := fun _ => True) (okp := fun _ => True) ?hr ?hp (fun _ hk => hk) trivial (Below.refl _ _) (Nat.le_refl _) (by simp) ?_; (case hd => rfl); (case hg => rfl); (case hr => first | (go_simp; done) | (go_simp; rfl)); (case hp => exact (Reps.none _ _)); intro v146 w25 ho26 hb hg_ hnew_; clear hg_ hnew_; (first | rw [← Ny145.out] at ho26 | (simp only [Int.reduceToNat] at ho26; rw [← Ny145.out] at ho26)); have n0_ := Aside0.mk (Kd.R_lower ho26 (below_size (by repeat (first | (with_reducible first | exact HB.out | apply below_alloc | apply pw_below_drewN | apply below_drew1) | exact HB.out)))); have n1_ := Aside0.mk (below_step (by repeat (first | (with_reducible first | exact HB.out | apply below_alloc | apply pw_below_drewN | apply below_drew1) | exact HB.out)) hb); clear HB; have HO147 := n0_; have HB := n1_; clear n0_ n1_; clear hb ho26; have p148 : 0 ≤ (x10_2 : Int) := of_decide_eq_true (by first | (with_reducible assumption) | assumption); have q148 : x10_2 < (l0.length : Int) := of_decide_eq_true (by first | (with_reducible assumption) | assumption); obtain ⟨ad148, A148_0, c148_0, e148, hx148_0, hl148_0, hi148_0⟩ := at_L1 HR0.out x10_2 p148 q148; obtain rfl : ad137 = ad148 := (by injection e148); replace hx148_0 := (HB.out.cell (World.block_lt_of_cell? w _ hx148_0)).trans hx148_0; have HR148_0 := Aside0.mk hi148_0; have HC148_0 := Aside0.mk hl148_0; clear hi148_0 hl148_0; replace p148 := eq_true p148; replace q148 := eq_true q148) | ((with_reducible refine gate_builtin (b := .append) (xs := #[.tmp 35, .tmp 39]) rfl ?_); (try (refine gate_guard (by rfl) ?_; dsimp only)); at_builtin; refine Kd.R_append_rows (Kd.int .i64) (w0 := w) w.heap.size rfl (.tmp 35) (.tmp 39) 23 3 (.int .i64 0) 8 rfl Try.underlying23 info3 rfl (by decide) (by omega) v146 y145 (rd_L1 l0 x10_2) _ _ _ (fun _ => True) (fun _ => False) rfl rfl ?aO ?aR (fun _ _ h => h) (fun _ h => h.elim) ?aF ?aB ?aS ?aL ?_; (case aR => repeat (first | exact (Kd.C_below HR148_0.out HB.out) | (with_reducible refine Kd.C_alloc ?_ _) | (with_reducible refine Kd.C_drewN ?_ _) | (with_reducible refine Kd.C_drew ?_))); (case aB => exact (by repeat (first | (with_reducible first | exact HB.out | apply below_alloc | apply pw_below_drewN | apply below_drew1) | exact HB.out))); (case aF => exact (fun _ _ => trivial)); (case aO => exact (by (with_reducible repeat (first | apply Kd.R_alloc | apply Kd.R_drewN | apply Kd.R_drew)); exact HO147.out)); (case aS => exact (below_size (by repeat (first | (with_reducible first | exact HB.out | apply below_alloc | apply pw_below_drewN | apply below_drew1) | exact HB.out)))); (case aL => have := LMc20.out; omega); intro v150 w27 ho hb hg hat; rw [← Ny149.out] at ho; have n0_ := Aside0.mk (hb); have n1_ := Aside0.mk (ho); clear HB; clear HO147; have HB := n0_; have HO151 := n1_; clear n0_ n1_; clear ho hb hg hat) | ((with_reducible refine gate_builtin (b := .append) (xs := #[.tmp 40, .tmp 42]) rfl ?_); (try (refine gate_guard (by rfl) ?_; dsimp only)); at_builtin; refine Kd.R_append (Kd.int .i64) (w0 := w) w.heap.size rfl (.tmp 40) (.tmp 42) 23 3 (.int .i64 0) 8 rfl Try.underlying23 info3 rfl (by decide) (by omega) v150 y149 a2 [.int .i64 a2] (fun _ => True) (fun _ => False) rfl rfl ?aP (fun _ hk => hk.elim) ?aF ?aO ?aB ?aS ?aL ?_; (case aP => exact rfl); (case aB => exact (by repeat (first | (with_reducible first | exact HB.out | apply below_alloc | apply pw_below_drewN | apply below_drew1) | exact HB.out))); (case aF => exact (fun _ _ => trivial)); (case aO => exact (by (with_reducible repeat (first | apply Kd.R_alloc | apply Kd.R_drewN | apply Kd.R_drew)); exact HO151.out)); (case aS => exact (below_size (by repeat (first | (with_reducible first | exact HB.out | apply below_alloc | apply pw_below_drewN | apply below_drew1) | exact HB.out)))); (case aL => have := LMc21.out; omega); intro v153 w28 ho hb hg hat; rw [← Ny152.out] at ho; have n0_ := Aside0.mk (hb); have n1_ := Aside0.mk (ho); clear HB; clear HO151; have HB := n0_; have HO154 := n1_; clear n0_ n1_; clear ho hb hg hat; obtain ⟨Ao29, co29, eo29⟩ := Kd.R_slice HO154.out; subst eo29) | (go_at_call 82; (with_reducible refine (paronymref22_Find.calls k2 _ _ l0 _ _ y152 t155 _ ?side1 ?side2 ?side3 ?side4 A22.out).mono ?_); (case side1 => repeat (first | exact (Kd.C_below HR0.out HB.out) | (with_reducible refine Kd.C_alloc ?_ _) | (with_reducible refine Kd.C_drewN ?_ _) | (with_reducible refine Kd.C_drew ?_))); (case side2 => exact HC0.out); (case side3 => repeat (first | exact (Kd.R_reads' HO154.out).2.2 | (with_reducible refine Kd.C_alloc ?_ _) | (with_reducible refine Kd.C_drewN ?_ _) | (with_reducible refine Kd.C_drew ?_))); (case side4 => exact (Kd.R_reads' HO154.out).2.1); rintro e w' ⟨rfl, ⟨nd, rfl⟩⟩) | ((with_reducible refine gate_callee (f := 44) rfl ?_); refine goesL_ (some 49) rfl rfl Try.func44 (by kernel_rfl) rfl #[.slice (some ad137) l0.length c0, .int .i64 x10_2] rfl (by (try simp only [List.map_toArray, List.map_cons, List.map_nil]); first | done | rfl | (simp only [List.length_drop, List.length_take]; rfl)) ?_; (with_reducible refine (paronymref23_Fail.calls k2 _ _ l0 x10_2 t156 _ ?side1 ?side2 A24.out).mono ?_); (case side1 => repeat (first | exact (Kd.C_below HR0.out (by repeat (first | (with_reducible first | exact HB.out | apply below_alloc | apply pw_below_drewN | apply below_drew1) | exact HB.out))) | (with_reducible refine Kd.C_alloc ?_ _) | (with_reducible refine Kd.C_drewN ?_ _) | (with_reducible refine Kd.C_drew ?_))); (case side2 => exact HC0.out); rintro e w' ⟨rfl, ⟨nd, rfl⟩⟩; refine ⟨_, rfl, ?_⟩))
                                go_roundg k2
                                case measure => have := HJ3.out; have := HK2.out; omega
                                case rel => exact ⟨(wrap64 (x9_2 + 1)), (t156), (by first | rfl | (simp; done) | (simp [*]; done)), (by first | rfl | (simp; done) | (simp [*]; done)), H', ⟨by have := HJ3.out; have := HK2.out; omega⟩, ⟨by repeat (first | (with_reducible first | exact HB.out | apply below_alloc | apply pw_below_drewN | apply below_drew1) | exact HB.out)⟩⟩
                              · rw [if_neg c23] at H
                                have c23b0 : decide (t155 < 0) = false := decide_eq_false c23
                                clear c23
                                simp only [Option.some.injEq, Prod.mk.injEq] at H
                                obtain ⟨rfl, rfl⟩ := H
                                go_wp2_with (first | ((with_reducible refine gate_dst (N := 35) rfl ?_); (try (refine gate_guard (by rfl) ?_; dsimp only)); refine Kd.R_lit (Kd.int .i64) _ 3 ?hg (N := 35) ?hd (xs := ([] : List Int)) (inner := []) (ok := fun _ => True) (okp := fun _ => True) ?hr ?hp (fun _ hk => hk) trivial (Below.refl _ _) (Nat.le_refl _) (by simp) ?_; (case hd => rfl); (case hg => rfl); (case hr => first | (go_simp; done) | (go_simp; rfl)); (case hp => exact (Reps.none _ _)); intro v146 w30 ho31 hb hg_ hnew_; clear hg_ hnew_; (first | rw [← Ny145.out] at ho31 | (simp only [Int.reduceToNat] at ho31; rw [← Ny145.out] at ho31)); have n0_ := Aside0.mk (Kd.R_lower ho31 (below_size (by repeat (first | (with_reducible first | exact HB.out | apply below_alloc | apply pw_below_drewN | apply below_drew1) | exact HB.out)))); have n1_ := Aside0.mk (below_step (by repeat (first | (with_reducible first | exact HB.out | apply below_alloc | apply pw_below_drewN | apply below_drew1) | exact HB.out)) hb); clear HB; have HO147 := n0_; have HB := n1_; clear n0_ n1_; clear hb ho31; have p148 : 0 ≤ (x10_2 : Int) := of_decide_eq_true (by first | (with_reducible assumption) | assumption); have q148 : x10_2 < (l0.length : Int) := of_decide_eq_true (by first | (with_reducible assumption) | assumption); obtain ⟨ad148, A148_0, c148_0, e148, hx148_0, hl148_0, hi148_0⟩ := at_L1 HR0.out x10_2 p148 q148; obtain rfl : ad137 = ad148 := (by injection e148); replace hx148_0 := (HB.out.cell (World.block_lt_of_cell? w _ hx148_0)).trans hx148_0; have HR148_0 := Aside0.mk hi148_0; have HC148_0 := Aside0.mk hl148_0; clear hi148_0 hl148_0; replace p148 := eq_true p148; replace q148 := eq_true q148) | ((with_reducible refine gate_builtin (b := .append) (xs := #[.tmp 35, .tmp 39]) rfl ?_); (try (refine gate_guard (by rfl) ?_; dsimp only)); at_builtin; refine Kd.R_append_rows (Kd.int .i64) (w0 := w) w.heap.size rfl (.tmp 35) (.tmp 39) 23 3 (.int .i64 0) 8 rfl Try.underlying23 info3 rfl (by decide) (by omega) v146 y145 (rd_L1 l0 x10_2) _ _ _ (fun _ => True) (fun _ => False) rfl rfl ?aO ?aR (fun _ _ h => h) (fun _ h => h.elim) ?aF ?aB ?aS ?aL ?_; (case aR => repeat (first | exact (Kd.C_below HR148_0.out HB.out) | (with_reducible refine Kd.C_alloc ?_ _) | (with_reducible refine Kd.C_drewN ?_ _) | (with_reducible refine Kd.C_drew ?_))); (case aB => exact (by repeat (first | (with_reducible first | exact HB.out | apply below_alloc | apply pw_below_drewN | apply below_drew1) | exact HB.out))); (case aF => exact (fun _ _ => trivial)); (case aO => exact (by (with_reducible repeat (first | apply Kd.R_alloc | apply Kd.R_drewN | apply Kd.R_drew)); exact HO147.out)); (case aS => exact (below_size (by repeat (first | (with_reducible first | exact HB.out | apply below_alloc | apply pw_below_drewN | apply below_drew1) | exact HB.out)))); (case aL => have := LMc20.out; omega); intro v150 w32 ho hb hg hat; rw [← Ny149.out] at ho; have n0_ := Aside0.mk (hb); have n1_ := Aside0.mk (ho); clear HB; clear HO147; have HB := n0_; have HO151 := n1_; clear n0_ n1_; clear ho hb hg hat) | ((with_reducible refine gate_builtin (b := .append) (xs := #[.tmp 40, .tmp 42]) rfl ?_); (try (refine gate_guard (by rfl) ?_; dsimp only)); at_builtin; refine Kd.R_append (Kd.int .i64) (w0 := w) w.heap.size rfl (.tmp 40) (.tmp 42) 23 3 (.int .i64 0) 8 rfl Try.underlying23 info3 rfl (by decide) (by omega) v150 y149 a2 [.int .i64 a2] (fun _ => True) (fun _ => False) rfl rfl ?aP (fun _ hk => hk.elim) ?aF ?aO ?aB ?aS ?aL ?_; (case aP => exact rfl); (case aB => exact (by repeat (first | (with_reducible first | exact HB.out | apply below_alloc | apply pw_below_drewN | apply below_drew1) | exact HB.out))); (case aF => exact (fun _ _ => trivial)); (case aO => exact (by (with_reducible repeat (first | apply Kd.R_alloc | apply Kd.R_drewN | apply Kd.R_drew)); exact HO151.out)); (case aS => exact (below_size (by repeat (first | (with_reducible first | exact HB.out | apply below_alloc | apply pw_below_drewN | apply below_drew1) | exact HB.out)))); (case aL => have := LMc21.out; omega); intro v153 w33 ho hb hg hat; rw [← Ny152.out] at ho; have n0_ := Aside0.mk (hb); have n1_ := Aside0.mk (ho); clear HB; clear HO151; have HB := n0_; have HO154 := n1_; clear n0_ n1_; clear ho hb hg hat; obtain ⟨Ao34, co34, eo34⟩ := Kd.R_slice HO154.out; subst eo34) | (go_at_call 82; (with_reducible refine (paronymref22_Find.calls k2 _ _ l0 _ _ y152 t155 _ ?side1 ?side2 ?side3 ?side4 A22.out).mono ?_); (case side1 => repeat (first | exact (Kd.C_below HR0.out HB.out) | (with_reducible refine Kd.C_alloc ?_ _) | (with_reducible refine Kd.C_drewN ?_ _) | (with_reducible refine Kd.C_drew ?_))); (case side2 => exact HC0.out); (case side3 => repeat (first | exact (Kd.R_reads' HO154.out).2.2 | (with_reducible refine Kd.C_alloc ?_ _) | (with_reducible refine Kd.C_drewN ?_ _) | (with_reducible refine Kd.C_drew ?_))); (case side4 => exact (Kd.R_reads' HO154.out).2.1); rintro e w' ⟨rfl, ⟨nd, rfl⟩⟩))
                                go_ret2
                                exact ⟨by first | rfl | (simp [errW_none, errW_some] <;> rfl) | (simp [*, errW_none, errW_some] <;> rfl), by repeat (first | (with_reducible first | exact HB.out | apply below_alloc | apply pw_below_drewN | apply below_drew1) | exact HB.out)⟩
                            · rw [if_neg c21] at H
                              exact absurd H (by simp)
                          · rw [if_neg c20] at H
                            exact absurd H (by simp)
                        · rw [if_neg c19] at H
                          exact absurd H (by simp)
                      · rw [if_neg c18] at H
                        exact absurd H (by simp)
                    · rw [if_neg c17] at H
                      have c17b0 : decide (0 < x10_2) = false := decide_eq_false c17
                      clear c17
                      simp only [Option.some.injEq, Prod.mk.injEq] at H
                      obtain ⟨rfl, rfl⟩ := H
                      go_wp2
                      go_ret2
                      exact ⟨by first | rfl | (simp [errW_none, errW_some] <;> rfl) | (simp [*, errW_none, errW_some] <;> rfl), by repeat (first | (with_reducible first | exact HB.out | apply below_alloc | apply pw_below_drewN | apply below_drew1) | exact HB.out)⟩
              · rw [if_neg c10] at H
                exact absurd H (by simp)
            · rw [if_neg c9] at H
              exact absurd H (by simp)
          · rw [if_neg c8] at H
            exact absurd H (by simp)
        · rw [if_neg c7] at H
          exact absurd H (by simp)

/-! ### paronymref22_Ends: function 88 -/
def paronymref22_Ends.l0 : Nat → List (List Int) → List Int → List Int → Int → Option (List Int)
  | 0, _, _, _, _ => none
  | k + 1, x0, x1, x5, x6 => if x6 < (x0.length : Int) then (if 0 ≤ x6 then ((paronymref01_Same.f k (rd_L1 x0 x6) x1).bind fun t158 => (if t158 = true then (if x5.length < 17592186044416 then (paronymref22_Ends.l0 k x0 x1 (x5 ++ [x6]) (wrap64 (x6 + 1))) else (none)) else (paronymref22_Ends.l0 k x0 x1 x5 (wrap64 (x6 + 1))))) else (none)) else (some x5)
def paronymref22_Ends.f (k : Nat) (l0 : List (List Int)) (l1 : List Int) : Option (List Int) := paronymref22_Ends.l0 k l0 l1 ([] : List Int) 0
theorem paronymref22_Ends.mono_l : ∀ k, (∀ y0 y1 y2 y3, LeO (paronymref22_Ends.l0 k y0 y1 y2 y3) (paronymref22_Ends.l0 (k + 1) y0 y1 y2 y3))
  | 0 => fun _ _ _ _ r h => by simp [paronymref22_Ends.l0] at h
  | k + 1 => by
    have ih0 := paronymref22_Ends.mono_l k
    · intro y0 y1 y2 y3
      unfold paronymref22_Ends.l0
      repeat' first
      | (with_reducible exact ih0 _ _ _ _)
      | (with_reducible exact paronymref01_Same.mono _ _ _)
      | (with_reducible exact LeO.refl _)
      | (with_reducible exact LeO.none _)
      | (with_reducible refine LeO.ite ?_ ?_)
      | (with_reducible refine LeO.bind ?_ (fun _ => ?_))
      | exact ih0 _ _ _ _
      | exact paronymref01_Same.mono _ _ _
      | exact LeO.none _
      | refine LeO.ite ?_ ?_
      | refine LeO.bind ?_ (fun _ => ?_)
theorem paronymref22_Ends.mono : ∀ a0 a1 k, LeO (paronymref22_Ends.f k a0 a1) (paronymref22_Ends.f (k + 1) a0 a1) := by
  intro a0 a1 k
  have ih0 := paronymref22_Ends.mono_l k
  unfold paronymref22_Ends.f
  repeat' first
      | (with_reducible exact ih0 _ _ _ _)
      | (with_reducible exact paronymref01_Same.mono _ _ _)
      | (with_reducible exact LeO.refl _)
      | (with_reducible exact LeO.none _)
      | (with_reducible refine LeO.ite ?_ ?_)
      | (with_reducible refine LeO.bind ?_ (fun _ => ?_))
      | exact ih0 _ _ _ _
      | exact paronymref01_Same.mono _ _ _
      | exact LeO.none _
      | refine LeO.ite ?_ ?_
      | refine LeO.bind ?_ (fun _ => ?_)
set_option maxHeartbeats 8000000 in
set_option maxRecDepth 100000 in
theorem paronymref22_Ends.calls (k : Nat) (A0 : Option Addr) (c0 : Nat) (l0 : List (List Int)) (A1 : Option Addr) (c1 : Nat) (l1 : List Int) (r : List Int) (w : World) (hr0 : Kd.C (Kd.slice 3 (Kd.int .i64)) w A0 l0.length l0) (hc0 : l0.length ≤ c0) (hr1 : Kd.C (Kd.int .i64) w A1 l1.length l1) (hc1 : l1.length ≤ c1) (h : paronymref22_Ends.f k l0 l1 = some r) :
    Calls Try.prog 88 #[.slice A0 l0.length c0, .slice A1 l1.length c1] w fun e w' => ∃ v0_ : Value, e = .returned (v0_) ∧ Kd.R (Kd.int .i64) 3 w' w.heap.size (fun _ => True) v0_ r ∧ Below w.heap.size w w' := by
  have HR0 := Aside0.mk hr0
  have HC0 := Aside0.mk hc0
  clear hr0 hc0
  have HR1 := Aside0.mk hr1
  have HC1 := Aside0.mk hc1
  clear hr1 hc1
  have HB := Aside0.mk (Below.refl w.heap.size w)
  have H : (paronymref22_Ends.l0 k l0 l1 ([] : List Int) 0) = some r := h
  clear h
  have H' := Aside0.mk H
  clear H
  go_enter Try.func88, Try.ntmps88
  go_wp2
  go_loopg [5, 6] k (fun kq v5 v6 w' => ∃ (x5_1 : List Int) (x6_1 : Int), v6 = .int .i64 x6_1 ∧ Aside0 (paronymref22_Ends.l0 kq l0 l1 x5_1 x6_1 = some r) ∧ Aside0 (kq ≤ k) ∧ Aside0 (Kd.R (Kd.int .i64) 3 w' w.heap.size (fun _ => True) v5 x5_1) ∧ Aside0 (Below w.heap.size w w'))
  case atStart => exact ⟨(([] : List Int)), (0), (by first | rfl | (simp; done) | (simp [*]; done)), H', ⟨Nat.le_refl _⟩, ⟨by first | exact Kd.R_nil _ _ _ _ _ | exact Kd.N_nil _ _ _ _ _ | exact Kd.V_nil _ _ _ _ _ | exact Kd.Q_nil _ _ _ _ _ | exact Kd.S_nil _ _ _ _ _⟩, ⟨by repeat (first | (with_reducible first | exact HB.out | apply below_alloc | apply pw_below_drewN | apply below_drew1) | exact HB.out)⟩⟩
  case round =>
    clear H'
    try clear c1
    try clear p2
    obtain ⟨x5_1, x6_1, rfl, HA, HK1, HO_5, HB⟩ := hrel
    cases gk with
    | zero => exact absurd HA.out (by simp [paronymref22_Ends.l0])
    | succ k1 =>
      have H := HA.out
      clear HA
      simp only [paronymref22_Ends.l0] at H
      by_cases c3 : x6_1 < (l0.length : Int)
      · rw [if_pos c3] at H
        have c3b0 : decide (x6_1 < (l0.length : Int)) = true := decide_eq_true c3
        clear c3
        by_cases c4 : 0 ≤ x6_1
        · rw [if_pos c4] at H
          have c4b0 : decide (0 ≤ x6_1) = true := decide_eq_true c4
          clear c4
          replace H := Option.bind_eq_some_iff.mp H
          obtain ⟨t158, A50, H⟩ := H
          replace H : (if t158 = true then (if x5_1.length < 17592186044416 then (paronymref22_Ends.l0 k1 l0 l1 (x5_1 ++ [x6_1]) (wrap64 (x6_1 + 1))) else (none)) else (paronymref22_Ends.l0 k1 l0 l1 x5_1 (wrap64 (x6_1 + 1)))) = some r := H
          have A5 := Aside0.mk A50
          clear A50
          by_cases c6 : t158 = true
          · subst c6
            have H1 : (if x5_1.length < 17592186044416 then (paronymref22_Ends.l0 k1 l0 l1 (x5_1 ++ [x6_1]) (wrap64 (x6_1 + 1))) else (none)) = some r := by rw [if_pos rfl] at H; exact H
            clear H
            have H := H1
            clear H1
            by_cases c7 : x5_1.length < 17592186044416
            · rw [if_pos c7] at H
              have LMc7 := Aside0.mk c7
              clear c7
              obtain ⟨y159, hy159⟩ : ∃ y_ : List Int, y_ = (x5_1 ++ [x6_1]) := ⟨_, rfl⟩
              replace H : (paronymref22_Ends.l0 k1 l0 l1 y159 (wrap64 (x6_1 + 1))) = some r := by first | (rw [hy159]; with_reducible exact H) | (have H2_ := (Option.bind_some _ _).symm.trans H; rw [hy159]; with_reducible exact H2_) | (have H2_ := (Option.bind_some _ _).symm.trans H; with_reducible exact H2_) | with_reducible exact H | (rw [hy159]; exact H) | exact H
              have Ny159 := Aside0.mk hy159
              clear hy159
              have H' := Aside0.mk H
              clear H
              have p157 : 0 ≤ (x6_1 : Int) := of_decide_eq_true (by first | (with_reducible assumption) | assumption)
              have q157 : x6_1 < (l0.length : Int) := of_decide_eq_true (by first | (with_reducible assumption) | assumption)
              obtain ⟨ad157, A157_0, c157_0, e157, hx157_0, hl157_0, hi157_0⟩ := at_L1 HR0.out x6_1 p157 q157
              cases e157
              replace hx157_0 := (HB.out.cell (World.block_lt_of_cell? w _ hx157_0)).trans hx157_0
              have HR157_0 := Aside0.mk hi157_0
              have HC157_0 := Aside0.mk hl157_0
              clear hi157_0 hl157_0
              replace p157 := eq_true p157
              replace q157 := eq_true q157
              go_wp2_with (first | ((with_reducible refine gate_callee (f := 18) rfl ?_); refine goesL_ (some 18) rfl rfl Try.func18 (by kernel_rfl) rfl #[.slice A157_0 (rd_L1 l0 x6_1).length c157_0, .slice A1 l1.length c1] rfl (by (try simp only [List.map_toArray, List.map_cons, List.map_nil]); first | done | rfl | (simp only [List.length_drop, List.length_take]; rfl)) ?_; (with_reducible refine (paronymref01_Same.calls k1 _ _ (rd_L1 l0 x6_1) _ _ l1 true _ ?side1 ?side2 ?side3 ?side4 A5.out).mono ?_); (case side1 => repeat (first | exact (Kd.C_below HR157_0.out HB.out) | (with_reducible refine Kd.C_alloc ?_ _) | (with_reducible refine Kd.C_drewN ?_ _) | (with_reducible refine Kd.C_drew ?_))); (case side2 => exact HC157_0.out); (case side3 => repeat (first | exact (Kd.C_below HR1.out HB.out) | (with_reducible refine Kd.C_alloc ?_ _) | (with_reducible refine Kd.C_drewN ?_ _) | (with_reducible refine Kd.C_drew ?_))); (case side4 => exact HC1.out); rintro e w' ⟨rfl, ⟨nd, rfl⟩⟩; refine ⟨_, rfl, ?_⟩) | ((with_reducible refine gate_builtin (b := .append) (xs := #[.tmp 19, .tmp 21]) rfl ?_); at_builtin; refine Kd.R_append (Kd.int .i64) (w0 := w) w.heap.size rfl (.tmp 19) (.tmp 21) 23 3 (.int .i64 0) 8 rfl Try.underlying23 info3 rfl (by decide) (by omega) u5 x5_1 x6_1 [.int .i64 x6_1] (fun _ => True) (fun _ => False) rfl rfl ?aP (fun _ hk => hk.elim) ?aF ?aO ?aB ?aS ?aL ?_; (case aP => exact rfl); (case aB => exact (by repeat (first | (with_reducible first | exact HB.out | apply below_alloc | apply pw_below_drewN | apply below_drew1) | exact HB.out))); (case aF => exact (fun _ _ => trivial)); (case aO => exact (by (with_reducible repeat (first | apply Kd.R_alloc | apply Kd.R_drewN | apply Kd.R_drew)); exact HO_5.out)); (case aS => exact (below_size (by repeat (first | (with_reducible first | exact HB.out | apply below_alloc | apply pw_below_drewN | apply below_drew1) | exact HB.out)))); (case aL => have := LMc7.out; omega); intro v160 w8 ho hb hg hat; rw [← Ny159.out] at ho; have n0_ := Aside0.mk (hb); have n1_ := Aside0.mk (ho); clear HB; clear HO_5; have HB := n0_; have HO161 := n1_; clear n0_ n1_; clear ho hb hg hat))
              go_roundg k1
              case measure => have := HK1.out; omega
              case rel => exact ⟨(y159), (wrap64 (x6_1 + 1)), (by first | rfl | (simp; done) | (simp [*]; done)), H', ⟨by have := HK1.out; omega⟩, ⟨by (with_reducible repeat (first | apply Kd.R_alloc | apply Kd.R_drewN | apply Kd.R_drew)); exact HO161.out⟩, ⟨by repeat (first | (with_reducible first | exact HB.out | apply below_alloc | apply pw_below_drewN | apply below_drew1) | exact HB.out)⟩⟩
            · rw [if_neg c7] at H
              exact absurd H (by simp)
          · replace c6 := Bool.eq_false_iff.mpr c6
            subst c6
            have H1 : (paronymref22_Ends.l0 k1 l0 l1 x5_1 (wrap64 (x6_1 + 1))) = some r := by rw [if_neg (show ¬ (false = true) by decide)] at H; exact H
            clear H
            have H := H1
            clear H1
            have H' := Aside0.mk H
            clear H
            have p157 : 0 ≤ (x6_1 : Int) := of_decide_eq_true (by first | (with_reducible assumption) | assumption)
            have q157 : x6_1 < (l0.length : Int) := of_decide_eq_true (by first | (with_reducible assumption) | assumption)
            obtain ⟨ad157, A157_0, c157_0, e157, hx157_0, hl157_0, hi157_0⟩ := at_L1 HR0.out x6_1 p157 q157
            cases e157
            replace hx157_0 := (HB.out.cell (World.block_lt_of_cell? w _ hx157_0)).trans hx157_0
            have HR157_0 := Aside0.mk hi157_0
            have HC157_0 := Aside0.mk hl157_0
            clear hi157_0 hl157_0
            replace p157 := eq_true p157
            replace q157 := eq_true q157
            go_wp2_with (first | ((with_reducible refine gate_callee (f := 18) rfl ?_); refine goesL_ (some 18) rfl rfl Try.func18 (by kernel_rfl) rfl #[.slice A157_0 (rd_L1 l0 x6_1).length c157_0, .slice A1 l1.length c1] rfl (by (try simp only [List.map_toArray, List.map_cons, List.map_nil]); first | done | rfl | (simp only [List.length_drop, List.length_take]; rfl)) ?_; (with_reducible refine (paronymref01_Same.calls k1 _ _ (rd_L1 l0 x6_1) _ _ l1 false _ ?side1 ?side2 ?side3 ?side4 A5.out).mono ?_); (case side1 => repeat (first | exact (Kd.C_below HR157_0.out HB.out) | (with_reducible refine Kd.C_alloc ?_ _) | (with_reducible refine Kd.C_drewN ?_ _) | (with_reducible refine Kd.C_drew ?_))); (case side2 => exact HC157_0.out); (case side3 => repeat (first | exact (Kd.C_below HR1.out HB.out) | (with_reducible refine Kd.C_alloc ?_ _) | (with_reducible refine Kd.C_drewN ?_ _) | (with_reducible refine Kd.C_drew ?_))); (case side4 => exact HC1.out); rintro e w' ⟨rfl, ⟨nd, rfl⟩⟩; refine ⟨_, rfl, ?_⟩))
            go_roundg k1
            case measure => have := HK1.out; omega
            case rel => exact ⟨(x5_1), (wrap64 (x6_1 + 1)), (by first | rfl | (simp; done) | (simp [*]; done)), H', ⟨by have := HK1.out; omega⟩, ⟨by (with_reducible repeat (first | apply Kd.R_alloc | apply Kd.R_drewN | apply Kd.R_drew)); exact HO_5.out⟩, ⟨by repeat (first | (with_reducible first | exact HB.out | apply below_alloc | apply pw_below_drewN | apply below_drew1) | exact HB.out)⟩⟩
        · rw [if_neg c4] at H
          exact absurd H (by simp)
      · rw [if_neg c3] at H
        have c3b0 : decide (x6_1 < (l0.length : Int)) = false := decide_eq_false c3
        clear c3
        obtain rfl := Option.some.inj H
        go_wp2
        go_ret
        exact ⟨_, by first | rfl | (simp [errW_none, errW_some] <;> rfl) | (simp [*, errW_none, errW_some] <;> rfl), by (with_reducible repeat (first | apply Kd.R_alloc | apply Kd.R_drewN | apply Kd.R_drew)); exact HO_5.out, by repeat (first | (with_reducible first | exact HB.out | apply below_alloc | apply pw_below_drewN | apply below_drew1) | exact HB.out)⟩

/-! ### paronymref23_Out: function 46 -/
mutual
def paronymref23_Out.j0 : Nat → List (List Int) → List (List Int) → Int → Bool → Option (Int)
  | 0, _, _, _, _ => none
  | k + 1, x0, x1, x2, x15 => if x15 = true then (some (-1)) else (paronymref23_Out.l0 k x0 x1 x2)
def paronymref23_Out.l0 : Nat → List (List Int) → List (List Int) → Int → Option (Int)
  | 0, _, _, _ => none
  | k + 1, x0, x1, x7 => if x7 > 0 then (if 0 ≤ x7 then (if x7 < (x1.length : Int) then ((paronymref22_Ends.f k x0 (rd_L1 x1 x7)).bind fun t163 => (if (t163.length : Int) > 0 then (some x7) else ((paronymref23_Fail.f k x1 x7).bind fun t166 => (paronymref23_Out.l0 k x0 x1 t166)))) else (none)) else (none)) else (some (-1))
end
def paronymref23_Out.f (k : Nat) (l0 : List (List Int)) (l1 : List (List Int)) (a2 : Int) : Option (Int) := if a2 < 0 then (paronymref23_Out.j0 k l0 l1 a2 true) else (paronymref23_Out.j0 k l0 l1 a2 (decide (a2 ≥ (l1.length : Int))))
theorem paronymref23_Out.mono_l : ∀ k, (∀ y0 y1 y2 y3, LeO (paronymref23_Out.j0 k y0 y1 y2 y3) (paronymref23_Out.j0 (k + 1) y0 y1 y2 y3)) ∧ (∀ y0 y1 y2, LeO (paronymref23_Out.l0 k y0 y1 y2) (paronymref23_Out.l0 (k + 1) y0 y1 y2))
  | 0 => ⟨fun _ _ _ _ r h => by simp [paronymref23_Out.j0] at h, fun _ _ _ r h => by simp [paronymref23_Out.l0] at h⟩
  | k + 1 => by
    obtain ⟨ih0, ih1⟩ := paronymref23_Out.mono_l k
    refine ⟨?_, ?_⟩
    · intro y0 y1 y2 y3
      unfold paronymref23_Out.j0
      repeat' first
      | (with_reducible exact ih0 _ _ _ _)
      | (with_reducible exact ih1 _ _ _)
      | (with_reducible exact paronymref22_Ends.mono _ _ _)
      | (with_reducible exact paronymref23_Fail.mono _ _ _)
      | (with_reducible exact LeO.refl _)
      | (with_reducible exact LeO.none _)
      | (with_reducible refine LeO.ite ?_ ?_)
      | (with_reducible refine LeO.bind ?_ (fun _ => ?_))
      | exact ih0 _ _ _ _
      | exact ih1 _ _ _
      | exact paronymref22_Ends.mono _ _ _
      | exact paronymref23_Fail.mono _ _ _
      | exact LeO.none _
      | refine LeO.ite ?_ ?_
      | refine LeO.bind ?_ (fun _ => ?_)
    · intro y0 y1 y2
      unfold paronymref23_Out.l0
      repeat' first
      | (with_reducible exact ih0 _ _ _ _)
      | (with_reducible exact ih1 _ _ _)
      | (with_reducible exact paronymref22_Ends.mono _ _ _)
      | (with_reducible exact paronymref23_Fail.mono _ _ _)
      | (with_reducible exact LeO.refl _)
      | (with_reducible exact LeO.none _)
      | (with_reducible refine LeO.ite ?_ ?_)
      | (with_reducible refine LeO.bind ?_ (fun _ => ?_))
      | exact ih0 _ _ _ _
      | exact ih1 _ _ _
      | exact paronymref22_Ends.mono _ _ _
      | exact paronymref23_Fail.mono _ _ _
      | exact LeO.none _
      | refine LeO.ite ?_ ?_
      | refine LeO.bind ?_ (fun _ => ?_)
theorem paronymref23_Out.mono : ∀ a0 a1 a2 k, LeO (paronymref23_Out.f k a0 a1 a2) (paronymref23_Out.f (k + 1) a0 a1 a2) := by
  intro a0 a1 a2 k
  obtain ⟨ih0, ih1⟩ := paronymref23_Out.mono_l k
  unfold paronymref23_Out.f
  repeat' first
      | (with_reducible exact ih0 _ _ _ _)
      | (with_reducible exact ih1 _ _ _)
      | (with_reducible exact paronymref22_Ends.mono _ _ _)
      | (with_reducible exact paronymref23_Fail.mono _ _ _)
      | (with_reducible exact LeO.refl _)
      | (with_reducible exact LeO.none _)
      | (with_reducible refine LeO.ite ?_ ?_)
      | (with_reducible refine LeO.bind ?_ (fun _ => ?_))
      | exact ih0 _ _ _ _
      | exact ih1 _ _ _
      | exact paronymref22_Ends.mono _ _ _
      | exact paronymref23_Fail.mono _ _ _
      | exact LeO.none _
      | refine LeO.ite ?_ ?_
      | refine LeO.bind ?_ (fun _ => ?_)
set_option maxHeartbeats 8000000 in
set_option maxRecDepth 100000 in
theorem paronymref23_Out.calls (k : Nat) (A0 : Option Addr) (c0 : Nat) (l0 : List (List Int)) (A1 : Option Addr) (c1 : Nat) (l1 : List (List Int)) (a2 : Int) (r : Int) (w : World) (hr0 : Kd.C (Kd.slice 3 (Kd.int .i64)) w A0 l0.length l0) (hc0 : l0.length ≤ c0) (hr1 : Kd.C (Kd.slice 3 (Kd.int .i64)) w A1 l1.length l1) (hc1 : l1.length ≤ c1) (h : paronymref23_Out.f k l0 l1 a2 = some r) :
    Calls Try.prog 46 #[.slice A0 l0.length c0, .slice A1 l1.length c1, .int .i64 a2] w fun e w' => e = .returned (.int .i64 r) ∧ Below w.heap.size w w' := by
  have HR0 := Aside0.mk hr0
  have HC0 := Aside0.mk hc0
  clear hr0 hc0
  have HR1 := Aside0.mk hr1
  have HC1 := Aside0.mk hc1
  clear hr1 hc1
  have HB := Aside0.mk (Below.refl w.heap.size w)
  have H : (if a2 < 0 then (paronymref23_Out.j0 k l0 l1 a2 true) else (paronymref23_Out.j0 k l0 l1 a2 (decide (a2 ≥ (l1.length : Int))))) = some r := h
  clear h
  have HC4 := Aside0.mk H
  clear H
  go_enter Try.func46, Try.ntmps46
  go_upto_region 1 with (fail)
  go_cut [15] (fun v15 wc => ∃ (kq : Nat) (x15_3 : Bool), v15 = .bool x15_3 ∧ Aside0 (paronymref23_Out.j0 kq l0 l1 a2 x15_3 = some r) ∧ Aside0 (kq ≤ k) ∧ Aside0 (Below w.heap.size w wc))
  case first =>
    have H := HC4.out
    clear HC4
    by_cases c5 : a2 < 0
    · rw [if_pos c5] at H
      have c5b0 : decide (a2 < 0) = true := decide_eq_true c5
      clear c5
      (first | rw [c5b0] | (simp only [i64_w, i32_w]; rw [c5b0]) | skip)
      have H' := Aside0.mk H
      clear H
      go_wp2
      go_meet
      case rel => exact ⟨_, (true), (by first | rfl | (simp; done) | (simp [*]; done)), H', ⟨by first | omega | exact Nat.le_refl _⟩, ⟨by repeat (first | (with_reducible first | exact HB.out | apply below_alloc | apply pw_below_drewN | apply below_drew1) | exact HB.out)⟩⟩
    · rw [if_neg c5] at H
      have c5b0 : decide (a2 < 0) = false := decide_eq_false c5
      clear c5
      (first | rw [c5b0] | (simp only [i64_w, i32_w]; rw [c5b0]) | skip)
      have H' := Aside0.mk H
      clear H
      go_wp2
      go_meet
      case rel => exact ⟨_, (decide (a2 ≥ (l1.length : Int))), (by first | rfl | (simp; done) | (simp [*]; done)), H', ⟨by first | omega | exact Nat.le_refl _⟩, ⟨by repeat (first | (with_reducible first | exact HB.out | apply below_alloc | apply pw_below_drewN | apply below_drew1) | exact HB.out)⟩⟩
  case rest =>
    clear HC4
    try clear c1
    try clear p2
    try clear c4
    try clear c5
    try clear c5b0
    obtain ⟨kq, x15_3, rfl, HA, HJ3, HB⟩ := hcut
    cases kq with
    | zero => exact absurd HA.out (by simp [paronymref23_Out.j0])
    | succ kj3 =>
      have H := HA.out
      clear HA
      simp only [paronymref23_Out.j0] at H
      by_cases c6 : x15_3 = true
      · subst c6
        have H1 : (some (-1)) = some r := by rw [if_pos rfl] at H; exact H
        clear H
        have H := H1
        clear H1
        obtain rfl := Option.some.inj H
        go_wp2
        go_ret
        exact ⟨by first | rfl | (simp [errW_none, errW_some] <;> rfl) | (simp [*, errW_none, errW_some] <;> rfl), by repeat (first | (with_reducible first | exact HB.out | apply below_alloc | apply pw_below_drewN | apply below_drew1) | exact HB.out)⟩
      · replace c6 := Bool.eq_false_iff.mpr c6
        subst c6
        have H1 : (paronymref23_Out.l0 kj3 l0 l1 a2) = some r := by rw [if_neg (show ¬ (false = true) by decide)] at H; exact H
        clear H
        have H := H1
        clear H1
        have H' := Aside0.mk H
        clear H
        go_wp2
        go_loopg [7] kj3 (fun kq v7 w' => ∃ (x7_2 : Int), v7 = .int .i64 x7_2 ∧ Aside0 (paronymref23_Out.l0 kq l0 l1 x7_2 = some r) ∧ Aside0 (kq ≤ kj3) ∧ Aside0 (Below w.heap.size w w'))
        case atStart => exact ⟨(a2), (by first | rfl | (simp; done) | (simp [*]; done)), H', ⟨Nat.le_refl _⟩, ⟨by repeat (first | (with_reducible first | exact HB.out | apply below_alloc | apply pw_below_drewN | apply below_drew1) | exact HB.out)⟩⟩
        case round =>
          clear H'
          try clear c1
          try clear p2
          try clear c4
          try clear c5
          try clear c5b0
          try clear c6
          try clear p2
          obtain ⟨x7_2, rfl, HA, HK2, HB⟩ := hrel
          cases gk with
          | zero => exact absurd HA.out (by simp [paronymref23_Out.l0])
          | succ k2 =>
            have H := HA.out
            clear HA
            simp only [paronymref23_Out.l0] at H
            by_cases c7 : x7_2 > 0
            · rw [if_pos c7] at H
              have c7b0 : decide (0 < x7_2) = true := decide_eq_true c7
              clear c7
              by_cases c8 : 0 ≤ x7_2
              · rw [if_pos c8] at H
                have c8b0 : decide (0 ≤ x7_2) = true := decide_eq_true c8
                clear c8
                by_cases c9 : x7_2 < (l1.length : Int)
                · rw [if_pos c9] at H
                  have c9b0 : decide (x7_2 < (l1.length : Int)) = true := decide_eq_true c9
                  clear c9
                  replace H := Option.bind_eq_some_iff.mp H
                  obtain ⟨t163, A100, H⟩ := H
                  replace H : (if (t163.length : Int) > 0 then (some x7_2) else ((paronymref23_Fail.f k2 l1 x7_2).bind fun t166 => (paronymref23_Out.l0 k2 l0 l1 t166))) = some r := H
                  have A10 := Aside0.mk A100
                  clear A100
                  by_cases c11 : (t163.length : Int) > 0
                  · rw [if_pos c11] at H
                    have c11b0 : decide (0 < (t163.length : Int)) = true := decide_eq_true c11
                    have c11b1 : decide (0 < t163.length) = true := decide_eq_true (by omega)
                    clear c11
                    obtain rfl := Option.some.inj H
                    have p162 : 0 ≤ (x7_2 : Int) := of_decide_eq_true (by first | (with_reducible assumption) | assumption)
                    have q162 : x7_2 < (l1.length : Int) := of_decide_eq_true (by first | (with_reducible assumption) | assumption)
                    obtain ⟨ad162, A162_0, c162_0, e162, hx162_0, hl162_0, hi162_0⟩ := at_L1 HR1.out x7_2 p162 q162
                    cases e162
                    replace hx162_0 := (HB.out.cell (World.block_lt_of_cell? w _ hx162_0)).trans hx162_0
                    have HR162_0 := Aside0.mk hi162_0
                    have HC162_0 := Aside0.mk hl162_0
                    clear hi162_0 hl162_0
                    replace p162 := eq_true p162
                    replace q162 := eq_true q162
                    go_wp2_with (first | ((with_reducible refine gate_callee (f := 88) rfl ?_); refine goesL_ (some 27) rfl rfl Try.func88 (by kernel_rfl) rfl #[.slice A0 l0.length c0, .slice A162_0 (rd_L1 l1 x7_2).length c162_0] rfl (by (try simp only [List.map_toArray, List.map_cons, List.map_nil]); first | done | rfl | (simp only [List.length_drop, List.length_take]; rfl)) ?_; (with_reducible refine (paronymref22_Ends.calls k2 _ _ l0 _ _ (rd_L1 l1 x7_2) t163 _ ?side1 ?side2 ?side3 ?side4 A10.out).mono ?_); (case side1 => repeat (first | exact (Kd.C_below HR0.out HB.out) | (with_reducible refine Kd.C_alloc ?_ _) | (with_reducible refine Kd.C_drewN ?_ _) | (with_reducible refine Kd.C_drew ?_))); (case side2 => exact HC0.out); (case side3 => repeat (first | exact (Kd.C_below HR162_0.out HB.out) | (with_reducible refine Kd.C_alloc ?_ _) | (with_reducible refine Kd.C_drewN ?_ _) | (with_reducible refine Kd.C_drew ?_))); (case side4 => exact HC162_0.out); rintro e w12 ⟨v164, rfl, ho0, hb⟩; refine ⟨_, rfl, ?_⟩; have n0_ := Aside0.mk (Kd.R_lower ho0 (below_size (by repeat (first | (with_reducible first | exact HB.out | apply below_alloc | apply pw_below_drewN | apply below_drew1) | exact HB.out)))); have n1_ := Aside0.mk (below_step (by repeat (first | (with_reducible first | exact HB.out | apply below_alloc | apply pw_below_drewN | apply below_drew1) | exact HB.out)) hb); clear HB; have HO165 := n0_; have HB := n1_; clear n0_ n1_; (try clear hb); (try clear hb2); (try clear hk); (try clear hi); (try clear ho0); obtain ⟨Ao13, co13, eo13⟩ := Kd.R_slice HO165.out; subst eo13))
                    go_ret
                    exact ⟨by first | rfl | (simp [errW_none, errW_some] <;> rfl) | (simp [*, errW_none, errW_some] <;> rfl), by repeat (first | (with_reducible first | exact HB.out | apply below_alloc | apply pw_below_drewN | apply below_drew1) | exact HB.out)⟩
                  · rw [if_neg c11] at H
                    have c11b0 : decide (0 < (t163.length : Int)) = false := decide_eq_false c11
                    have c11b1 : decide (0 < t163.length) = false := decide_eq_false (by omega)
                    clear c11
                    replace H := Option.bind_eq_some_iff.mp H
                    obtain ⟨t166, A140, H⟩ := H
                    replace H : (paronymref23_Out.l0 k2 l0 l1 t166) = some r := H
                    have A14 := Aside0.mk A140
                    clear A140
                    have H' := Aside0.mk H
                    clear H
                    have p162 : 0 ≤ (x7_2 : Int) := of_decide_eq_true (by first | (with_reducible assumption) | assumption)
                    have q162 : x7_2 < (l1.length : Int) := of_decide_eq_true (by first | (with_reducible assumption) | assumption)
                    obtain ⟨ad162, A162_0, c162_0, e162, hx162_0, hl162_0, hi162_0⟩ := at_L1 HR1.out x7_2 p162 q162
                    cases e162
                    replace hx162_0 := (HB.out.cell (World.block_lt_of_cell? w _ hx162_0)).trans hx162_0
                    have HR162_0 := Aside0.mk hi162_0
                    have HC162_0 := Aside0.mk hl162_0
                    clear hi162_0 hl162_0
                    replace p162 := eq_true p162
                    replace q162 := eq_true q162
                    go_wp2_with (first | ((with_reducible refine gate_callee (f := 88) rfl ?_); refine goesL_ (some 27) rfl rfl Try.func88 (by kernel_rfl) rfl #[.slice A0 l0.length c0, .slice A162_0 (rd_L1 l1 x7_2).length c162_0] rfl (by (try simp only [List.map_toArray, List.map_cons, List.map_nil]); first | done | rfl | (simp only [List.length_drop, List.length_take]; rfl)) ?_; (with_reducible refine (paronymref22_Ends.calls k2 _ _ l0 _ _ (rd_L1 l1 x7_2) t163 _ ?side1 ?side2 ?side3 ?side4 A10.out).mono ?_); (case side1 => repeat (first | exact (Kd.C_below HR0.out HB.out) | (with_reducible refine Kd.C_alloc ?_ _) | (with_reducible refine Kd.C_drewN ?_ _) | (with_reducible refine Kd.C_drew ?_))); (case side2 => exact HC0.out); (case side3 => repeat (first | exact (Kd.C_below HR162_0.out HB.out) | (with_reducible refine Kd.C_alloc ?_ _) | (with_reducible refine Kd.C_drewN ?_ _) | (with_reducible refine Kd.C_drew ?_))); (case side4 => exact HC162_0.out); rintro e w15 ⟨v164, rfl, ho0, hb⟩; refine ⟨_, rfl, ?_⟩; have n0_ := Aside0.mk (Kd.R_lower ho0 (below_size (by repeat (first | (with_reducible first | exact HB.out | apply below_alloc | apply pw_below_drewN | apply below_drew1) | exact HB.out)))); have n1_ := Aside0.mk (below_step (by repeat (first | (with_reducible first | exact HB.out | apply below_alloc | apply pw_below_drewN | apply below_drew1) | exact HB.out)) hb); clear HB; have HO165 := n0_; have HB := n1_; clear n0_ n1_; (try clear hb); (try clear hb2); (try clear hk); (try clear hi); (try clear ho0); obtain ⟨Ao16, co16, eo16⟩ := Kd.R_slice HO165.out; subst eo16) | ((with_reducible refine gate_callee (f := 44) rfl ?_); refine goesL_ (some 21) rfl rfl Try.func44 (by kernel_rfl) rfl #[.slice (some ad162) l1.length c1, .int .i64 x7_2] rfl (by (try simp only [List.map_toArray, List.map_cons, List.map_nil]); first | done | rfl | (simp only [List.length_drop, List.length_take]; rfl)) ?_; (with_reducible refine (paronymref23_Fail.calls k2 _ _ l1 x7_2 t166 _ ?side1 ?side2 A14.out).mono ?_); (case side1 => repeat (first | exact (Kd.C_below HR1.out HB.out) | (with_reducible refine Kd.C_alloc ?_ _) | (with_reducible refine Kd.C_drewN ?_ _) | (with_reducible refine Kd.C_drew ?_))); (case side2 => exact HC1.out); rintro e w' ⟨rfl, ⟨nd, rfl⟩⟩; refine ⟨_, rfl, ?_⟩))
                    go_roundg k2
                    case measure => have := HJ3.out; have := HK2.out; omega
                    case rel => exact ⟨(t166), (by first | rfl | (simp; done) | (simp [*]; done)), H', ⟨by have := HJ3.out; have := HK2.out; omega⟩, ⟨by repeat (first | (with_reducible first | exact HB.out | apply below_alloc | apply pw_below_drewN | apply below_drew1) | exact HB.out)⟩⟩
                · rw [if_neg c9] at H
                  exact absurd H (by simp)
              · rw [if_neg c8] at H
                exact absurd H (by simp)
            · rw [if_neg c7] at H
              have c7b0 : decide (0 < x7_2) = false := decide_eq_false c7
              clear c7
              obtain rfl := Option.some.inj H
              go_wp2
              go_ret
              exact ⟨by first | rfl | (simp [errW_none, errW_some] <;> rfl) | (simp [*, errW_none, errW_some] <;> rfl), by repeat (first | (with_reducible first | exact HB.out | apply below_alloc | apply pw_below_drewN | apply below_drew1) | exact HB.out)⟩

end Go.Proofs.Ytgfmplhpoblleaa.PFB
end
section
/- The document's comparison of two texts, in plain lists. -/
namespace Go.Proofs.Ytgfmplhpoblleaa.RefS
open Go.RowKit Go.Proofs.YtgfmplhpoblleaaW.PrintWords Go.Proofs.YtgfmplhpoblleaaW.PrintLast Go.Proofs.Ytgfmplhpoblleaa.PRank
open Go.Proofs.Ytgfmplhpoblleaa Go.Proofs.Ytgfmplhpoblleaa.Cmps
set_option linter.unusedVariables false
set_option linter.unusedSimpArgs false

theorem r_wrap (x : Int) (h0 : -9223372036854775808 ≤ x) (h1 : x < 9223372036854775808) : wrap64 x = x := by
  unfold wrap64; omega
theorem rd_at (x : List Int) (i : Nat) (h : i < x.length) : rd x (i : Int) = x[i] := by unfold rd; simp [h]
theorem ref_len (x y : List Int) (hx : x.length ≤ 1000000) (hy : y.length ≤ 1000000) (d : Nat) : ∀ (k i : Nat), x.length - i = d → i ≤ x.length → i ≤ y.length → 2 * d + 2 ≤ k → paronymref01_Compare.l0 k x y (i : Int) = some (cmpL (x.drop i) (y.drop i)) := by
  induction d with
  | zero =>
    intro k i hd hi hj hk
    obtain ⟨k, rfl⟩ : ∃ m, k = m + 2 := ⟨k - 2, by omega⟩
    simp only [paronymref01_Compare.l0, paronymref01_Compare.j1]
    rw [if_neg (by omega), List.drop_of_length_le (by omega : x.length ≤ i)]
    simp only [Bool.false_eq_true, if_false]
    by_cases h : (x.length : Int) < (y.length : Int)
    · rw [if_pos h, List.drop_eq_getElem_cons (by omega : i < y.length)]; rfl
    · rw [if_neg h, if_neg (by omega), List.drop_of_length_le (by omega : y.length ≤ i)]; rfl
  | succ d ih =>
    intro k i hd hi hj hk
    obtain ⟨k, rfl⟩ : ∃ m, k = m + 2 := ⟨k - 2, by omega⟩
    simp only [paronymref01_Compare.l0, paronymref01_Compare.j1]
    have hlt : i < x.length := by omega
    rw [if_pos (by omega), List.drop_eq_getElem_cons hlt]
    by_cases h : i < y.length
    · rw [if_pos (by simp; omega), if_pos (by omega), if_pos (by omega), if_pos (by omega), rd_at x i hlt, rd_at y i h, r_wrap _ (by omega) (by omega), List.drop_eq_getElem_cons h]
      simp only [cmpL]
      by_cases h1 : x[i] < y[i]
      · rw [if_pos h1, if_pos h1]
      · rw [if_neg h1, if_neg h1]
        by_cases h2 : x[i] > y[i]
        · rw [if_pos h2, if_pos (by omega)]
        · rw [if_neg h2, if_neg (by omega)]
          have := ih k (i + 1) (by omega) (by omega) (by omega) (by omega)
          rw [← this]; congr 1
    · rw [if_neg (by simp; omega), if_neg (by omega), if_pos (by omega), List.drop_of_length_le (by omega : y.length ≤ i)]; rfl
theorem ref_cmp (x y : List Int) (hx : x.length ≤ 1000000) (hy : y.length ≤ 1000000) (k : Nat) (hk : 2 * x.length + 2 ≤ k) : paronymref01_Compare.f k x y = some (cmpL x y) := by
  have := ref_len x y hx hy x.length k 0 (by omega) (by omega) (by omega) hk
  unfold paronymref01_Compare.f
  simpa using this
theorem ref_same (x y : List Int) (hx : x.length ≤ 1000000) (hy : y.length ≤ 1000000) (k : Nat) (hk : 2 * x.length + 2 ≤ k) : paronymref01_Same.f k x y = some (decide (x = y)) := by
  unfold paronymref01_Same.f
  rw [ref_cmp x y hx hy k hk]
  simp only [Option.bind_some]
  by_cases h : x = y
  · have := cmpL_eq.2 h; rw [this]; simp [h]
  · have : cmpL x y ≠ 0 := fun e => h (cmpL_eq.1 e)
    simp [h, this]

end Go.Proofs.Ytgfmplhpoblleaa.RefS
end
section
/- The document's answers for tries and failures, in plain lists. -/
namespace Go.Proofs.Ytgfmplhpoblleaa.FailW
open Go.RowKit Go.Shelf Go.Lib Go.Proofs Go.Proofs.YtgfmplhpoblleaaW.PrintWords Go.Proofs.YtgfmplhpoblleaaW.PrintLast Go.Proofs.YtgfmplhpoblleaaW.PrintMore Go.Proofs.Ytgfmplhpoblleaa.PRank Go.Proofs.Ytgfmplhpoblleaa.PFB Go.Proofs.Ytgfmplhpoblleaa.RankW Go.Proofs.Ytgfmplhpoblleaa.SortOwn Go.Proofs.Ytgfmplhpoblleaa
open Go.Proofs.Ytgfmplhpoblleaa.Cmps hiding dedup
set_option linter.unusedVariables false
set_option linter.unusedSimpArgs false

theorem rdL (x : List (List Int)) (i : Nat) (h : i < x.length) : rd_L1 x (i : Int) = x[i] := by unfold rd_L1; simp [h]
/-- Texts of a size at which the statements speak. -/
def Bnd (ts : List (List Int)) : Prop := ts.length ≤ 1000 ∧ ∀ u ∈ ts, u.length ≤ 1000
/-- A text's number; -1: there is none. -/
def fnd (ts : List (List Int)) (s : List Int) : Int := if s ∈ ts then ((ts.idxOf s : Nat) : Int) else -1
section
variable {x : List S106} {ts : List (List Int)}
/-- Where a node goes by a number, by the document. -/
def goRef (ts : List (List Int)) (n c : Int) : Int × Int := if 0 ≤ n ∧ n < (ts.length : Int) then (((ts.idxOf (lngT ts (ts.getD n.toNat [] ++ [c])) : Nat) : Int), 1 + cnt ts c ((ts.getD n.toNat []).length + 1) (ts.getD n.toNat [])) else (0, 0)
theorem cnt_more (ts : List (List Int)) (c : Int) : ∀ (d e : Nat) (u : List Int), u.length < d → u.length < e → cnt ts c d u = cnt ts c e u
  | 0, _, _, h, _ => absurd h (by omega)
  | _, 0, _, _, h => absurd h (by omega)
  | d + 1, e + 1, u, h1, h2 => by
    rw [cnt, cnt]
    by_cases h : u ++ [c] ∈ ts ∨ u = []
    · rw [if_pos h, if_pos h]
    · rw [if_neg h, if_neg h]
      have hpos : 0 < u.length := List.length_pos_iff.2 (fun e => h (.inr e))
      have hl := lngT_len ts u.tail
      rw [List.length_tail] at hl
      rw [cnt_more ts c d e _ (by omega) (by omega)]
/-- The program's walk is the document's. -/
theorem go_ref (h : Sp x ts) {s : St} (hF : LFin x ts s) {m : Nat} (hm : m < x.length) (c : Int) : goF x s.fl c (x.length + 1) m 1 = some (goRef ts m c) := by
  have hmt : m < ts.length := by have := h.len; omega
  have hu : ts[m]? = some ts[m] := List.getElem?_eq_getElem hmt
  have hs := h.short (List.getElem_mem hmt)
  have := goF_eq h hF.fll c ts[m].length (fun m' u' h1 _ _ => hF.fl m' u' h1) (x.length + 1) m ts[m] 1 hu (Nat.le_refl _) (by omega)
  rw [this]
  unfold goRef
  have eg : ts.getD (m : Int).toNat [] = ts[m] := by rw [Int.toNat_natCast, List.getD_eq_getElem?_getD, hu]; rfl
  rw [if_pos (by omega), eg, cnt_more ts c (x.length + 1) (ts[m].length + 1) _ (by omega) (by omega)]
/-- No more than two transitions for each number. -/
theorem cnt_few {ts : List (List Int)} (hc : ∀ s c, s ++ [c] ∈ ts → s ∈ ts) (c : Int) : ∀ (d : Nat) (u : List Int), u.length < d → cnt ts c d u + (lngT ts (u ++ [c])).length ≤ u.length + 1
  | 0, _, h => absurd h (by omega)
  | d + 1, u, h => by
    rw [cnt]
    by_cases h1 : u ++ [c] ∈ ts ∨ u = []
    · rw [if_pos h1]
      have := lngT_len ts (u ++ [c])
      simp at this ⊢; omega
    · rw [if_neg h1]
      have hne : u ≠ [] := fun e => h1 (.inr e)
      have hpos : 0 < u.length := List.length_pos_iff.2 hne
      have hl := lngT_len ts u.tail
      rw [List.length_tail] at hl
      rw [lngT_step hc c hne (fun e => h1 (.inl e))]
      have := cnt_few hc c d (lngT ts u.tail) (by omega)
      omega
end
/-- The texts: the document's are ours. -/
theorem tsAdd_bd (pl : List Int) : ∀ (ts : List (List Int)) (s : List Int), (∀ u ∈ ts, u.length ≤ 1000) → s.length + pl.length ≤ 1000 → (tsAdd ts s pl).length ≤ ts.length + pl.length ∧ ∀ u ∈ tsAdd ts s pl, u.length ≤ 1000 := by
  induction pl with
  | nil => intro ts s h hs; exact ⟨Nat.le_refl _, h⟩
  | cons c r ih =>
    intro ts s h hs
    rw [tsAdd]
    simp at hs
    split
    · have := ih ts (s ++ [c]) h (by simp; omega)
      exact ⟨by simp; omega, this.2⟩
    · have := ih (ts ++ [s ++ [c]]) (s ++ [c]) (by
        intro u hu
        rcases List.mem_append.1 hu with hu | hu
        · exact h u hu
        · simp at hu; subst hu; simp; omega) (by simp; omega)
      exact ⟨by have h1 := this.1; simp at h1; simp; omega, this.2⟩
theorem texts_bnd (r : List (List Int)) : ∀ (ts : List (List Int)), (∀ u ∈ ts, u.length ≤ 1000) → (∀ u ∈ r, u.length ≤ 1000) → (tsAll ts r).length ≤ ts.length + total r ∧ ∀ u ∈ tsAll ts r, u.length ≤ 1000 := by
  induction r with
  | nil => intro ts h _; exact ⟨by simp [tsAll, total], h⟩
  | cons p r ih =>
    intro ts h hr
    have h1 := tsAdd_bd p ts [] h (by simp; exact hr p (by simp))
    have h2 := ih _ h1.2 (fun u hu => hr u (List.mem_cons_of_mem _ hu))
    rw [tsAll]
    exact ⟨by have := h2.1; simp [total] at this ⊢; omega, h2.2⟩
theorem textsOf_bnd {l : List (List Int)} (hl : Bnd l) (ht : total l ≤ 900) : Bnd (textsOf l) := by
  have := texts_bnd l [[]] (by simp) hl.2
  exact ⟨by have := this.1; simp at this; unfold textsOf; omega, this.2⟩
/-- The guards. -/
theorem small_l (l : List (List Int)) (B : Nat) (hB : B ≤ 1000) (hl : l.length ≤ B) (d : Nat) : ∀ (k i : Nat), l.length - i = d → i ≤ l.length → d < k → ∃ b, paronymref22_Small.l0 k l B (i : Int) = some b ∧ (b = true → ∀ u ∈ l.drop i, u.length ≤ B) := by
  induction d with
  | zero =>
    intro k i hd hi hk
    obtain ⟨k, rfl⟩ : ∃ m, k = m + 1 := ⟨k - 1, by omega⟩
    simp only [paronymref22_Small.l0]
    rw [if_neg (by omega), List.drop_of_length_le (by omega)]
    exact ⟨true, rfl, fun _ x hx => by cases hx⟩
  | succ d ih =>
    intro k i hd hi hk
    obtain ⟨k, rfl⟩ : ∃ m, k = m + 1 := ⟨k - 1, by omega⟩
    have hlt : i < l.length := by omega
    simp only [paronymref22_Small.l0]
    rw [if_pos (by omega), if_pos (by omega), rdL l i hlt, List.drop_eq_getElem_cons hlt, RefS.r_wrap _ (by omega) (by omega)]
    by_cases h : (l[i].length : Int) > B
    · rw [if_pos h]; exact ⟨false, rfl, fun h => by cases h⟩
    · rw [if_neg h]
      obtain ⟨b, hb, hbx⟩ := ih k (i + 1) (by omega) (by omega) (by omega)
      refine ⟨b, by rw [← hb]; congr 1, fun h2 x hx => ?_⟩
      rcases List.mem_cons.1 hx with rfl | hx
      · omega
      · exact hbx h2 x hx
theorem small_f (l : List (List Int)) (B : Nat) (hB : B ≤ 1000) (k : Nat) (hk : 1010 ≤ k) : ∃ b, paronymref22_Small.f k l B = some b ∧ (b = true → l.length ≤ B ∧ ∀ u ∈ l, u.length ≤ B) := by
  unfold paronymref22_Small.f
  by_cases h : (l.length : Int) > B
  · rw [if_pos h]; exact ⟨false, rfl, fun h => by cases h⟩
  · rw [if_neg h]
    obtain ⟨b, hb, hbx⟩ := small_l l B hB (by omega) l.length k 0 (by omega) (by omega) (by omega)
    exact ⟨b, hb, fun h2 => ⟨by omega, fun x hx => hbx h2 x (by simpa using hx)⟩⟩
theorem empty_l (l : List (List Int)) (hl : l.length ≤ 1000) (d : Nat) : ∀ (k i : Nat), l.length - i = d → i ≤ l.length → d < k → paronymref22_Empty.l0 k l (i : Int) = some ((l.drop i).any (·.isEmpty)) := by
  induction d with
  | zero =>
    intro k i hd hi hk
    obtain ⟨k, rfl⟩ : ∃ m, k = m + 1 := ⟨k - 1, by omega⟩
    simp only [paronymref22_Empty.l0]
    rw [if_neg (by omega), List.drop_of_length_le (by omega)]; rfl
  | succ d ih =>
    intro k i hd hi hk
    obtain ⟨k, rfl⟩ : ∃ m, k = m + 1 := ⟨k - 1, by omega⟩
    have hlt : i < l.length := by omega
    simp only [paronymref22_Empty.l0]
    rw [if_pos (by omega), if_pos (by omega), rdL l i hlt, List.drop_eq_getElem_cons hlt, RefS.r_wrap _ (by omega) (by omega), List.any_cons]
    by_cases h : (l[i].length : Int) = 0
    · have : l[i] = [] := List.length_eq_zero_iff.1 (by omega)
      rw [if_pos h, this]; rfl
    · rw [if_neg h]
      have e : l[i].isEmpty = false := by
        cases hq : l[i] with
        | nil => rw [hq] at h; simp at h
        | cons _ _ => rfl
      rw [e, Bool.false_or, ← ih k (i + 1) (by omega) (by omega) (by omega)]; congr 1
theorem empty_f (l : List (List Int)) (hl : l.length ≤ 1000) (k : Nat) (hk : 1010 ≤ k) : paronymref22_Empty.f k l = some (l.any (·.isEmpty)) := by
  have := empty_l l hl l.length k 0 (by omega) (by omega) (by omega)
  unfold paronymref22_Empty.f
  simpa using this
end Go.Proofs.Ytgfmplhpoblleaa.FailW
end
