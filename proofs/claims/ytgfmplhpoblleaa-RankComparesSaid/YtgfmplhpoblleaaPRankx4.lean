-- printed by the kit's print.py over several roots (printroots.sh): no hand has typed this
import Derived.Test.YtgfmplhpoblleaaPRankx0
import Derived.Test.YtgfmplhpoblleaaPRankx3
namespace Go.Proofs.Ytgfmplhpoblleaa.PRank
open Go.RowKit Go.Proofs.YtgfmplhpoblleaaW.PrintWords Go.Proofs.YtgfmplhpoblleaaW.PrintLast Go.Proofs.YtgfmplhpoblleaaW.PrintMore
attribute [local go_sem] max2_int min2_int max_two min_two max_three min_three max_four min_four   -- for this text's walks alone
set_option linter.unusedVariables false
set_option linter.unusedSimpArgs false

/-! ### paronymref29_Sort: function 27 -/
mutual
def paronymref29_Sort.l0 : Nat → List (S33) → List (S33) → Int → Option ((List (S33)))
  | 0, _, _, _ => none
  | k + 1, x0, x3, x4 => if x4 < (x0.length : Int) then (paronymref29_Sort.l1 k x0 x3 x4 (x3.length : Int)) else (some x3)
def paronymref29_Sort.l1 : Nat → List (S33) → List (S33) → Int → Int → Option ((List (S33)))
  | 0, _, _, _, _ => none
  | k + 1, x0, x3, x4, x5 => if x5 > 0 then (if 0 ≤ (wrap64 (x5 - 1)) then (if (wrap64 (x5 - 1)) < (x3.length : Int) then (if 0 ≤ x4 then (if x4 < (x0.length : Int) then ((paronymref29_Compare.f k ((rd_T33 x3 (wrap64 (x5 - 1))).f0) ((rd_T33 x3 (wrap64 (x5 - 1))).f1) ((rd_T33 x3 (wrap64 (x5 - 1))).f2) ((rd_T33 x3 (wrap64 (x5 - 1))).f3) ((rd_T33 x3 (wrap64 (x5 - 1))).f4) ((rd_T33 x0 x4).f0) ((rd_T33 x0 x4).f1) ((rd_T33 x0 x4).f2) ((rd_T33 x0 x4).f3) ((rd_T33 x0 x4).f4)).bind fun t139 => (if t139 > 0 then (paronymref29_Sort.l1 k x0 x3 x4 (wrap64 (x5 - 1))) else ((paronymref29_Compare.f k ((rd_T33 x3 (wrap64 (x5 - 1))).f0) ((rd_T33 x3 (wrap64 (x5 - 1))).f1) ((rd_T33 x3 (wrap64 (x5 - 1))).f2) ((rd_T33 x3 (wrap64 (x5 - 1))).f3) ((rd_T33 x3 (wrap64 (x5 - 1))).f4) ((rd_T33 x0 x4).f0) ((rd_T33 x0 x4).f1) ((rd_T33 x0 x4).f2) ((rd_T33 x0 x4).f3) ((rd_T33 x0 x4).f4)).bind fun t142 => (if t142 = 0 then (paronymref29_Sort.l0 k x0 x3 (wrap64 (x4 + 1))) else (if 0 ≤ x5 then (if x5 ≤ (x3.length : Int) then ((some (x3.take (x5 : Int).toNat : List (S33))).bind fun y143 => (if ([] : List (S33)).length + y143.length < 2513169434916 then ((some (([] : List (S33)) ++ y143 : List (S33))).bind fun y148 => (if y148.length < 2513169434916 then ((some (y148 ++ [(⟨(rd_T33 x0 x4).f0, (rd_T33 x0 x4).f1, (rd_T33 x0 x4).f2, (rd_T33 x0 x4).f3, (rd_T33 x0 x4).f4⟩ : S33)] : List (S33))).bind fun y152 => ((some (x3.drop (x5 : Int).toNat : List (S33))).bind fun y155 => (if y152.length + y155.length < 2513169434916 then (paronymref29_Sort.l0 k x0 (y152 ++ y155) (wrap64 (x4 + 1))) else (none)))) else (none))) else (none))) else (none)) else (none)))))) else (none)) else (none)) else (none)) else (none)) else (if 0 ≤ x5 then (if x5 ≤ (x3.length : Int) then ((some (x3.take (x5 : Int).toNat : List (S33))).bind fun y163 => (if ([] : List (S33)).length + y163.length < 2513169434916 then ((some (([] : List (S33)) ++ y163 : List (S33))).bind fun y168 => (if 0 ≤ x4 then (if x4 < (x0.length : Int) then (if y168.length < 2513169434916 then ((some (y168 ++ [(⟨(rd_T33 x0 x4).f0, (rd_T33 x0 x4).f1, (rd_T33 x0 x4).f2, (rd_T33 x0 x4).f3, (rd_T33 x0 x4).f4⟩ : S33)] : List (S33))).bind fun y172 => ((some (x3.drop (x5 : Int).toNat : List (S33))).bind fun y175 => (if y172.length + y175.length < 2513169434916 then (paronymref29_Sort.l0 k x0 (y172 ++ y175) (wrap64 (x4 + 1))) else (none)))) else (none)) else (none)) else (none))) else (none))) else (none)) else (none))
end
def paronymref29_Sort.f (k : Nat) (l0 : List (S33)) : Option ((List (S33))) := paronymref29_Sort.l0 k l0 ([] : List (S33)) 0
theorem paronymref29_Sort.mono_l : ∀ k, (∀ y0 y1 y2, LeO (paronymref29_Sort.l0 k y0 y1 y2) (paronymref29_Sort.l0 (k + 1) y0 y1 y2)) ∧ (∀ y0 y1 y2 y3, LeO (paronymref29_Sort.l1 k y0 y1 y2 y3) (paronymref29_Sort.l1 (k + 1) y0 y1 y2 y3))
  | 0 => ⟨fun _ _ _ r h => by simp [paronymref29_Sort.l0] at h, fun _ _ _ _ r h => by simp [paronymref29_Sort.l1] at h⟩
  | k + 1 => by
    obtain ⟨ih0, ih1⟩ := paronymref29_Sort.mono_l k
    refine ⟨?_, ?_⟩
    · intro y0 y1 y2
      unfold paronymref29_Sort.l0
      repeat' first
      | (with_reducible exact ih0 _ _ _)
      | (with_reducible exact ih1 _ _ _ _)
      | (with_reducible exact paronymref29_Compare.mono _ _ _ _ _ _ _ _ _ _ _)
      | (with_reducible exact LeO.refl _)
      | (with_reducible exact LeO.none _)
      | (with_reducible refine LeO.ite ?_ ?_)
      | (with_reducible refine LeO.bind ?_ (fun _ => ?_))
      | exact ih0 _ _ _
      | exact ih1 _ _ _ _
      | exact paronymref29_Compare.mono _ _ _ _ _ _ _ _ _ _ _
      | exact LeO.none _
      | refine LeO.ite ?_ ?_
      | refine LeO.bind ?_ (fun _ => ?_)
    · intro y0 y1 y2 y3
      unfold paronymref29_Sort.l1
      repeat' first
      | (with_reducible exact ih0 _ _ _)
      | (with_reducible exact ih1 _ _ _ _)
      | (with_reducible exact paronymref29_Compare.mono _ _ _ _ _ _ _ _ _ _ _)
      | (with_reducible exact LeO.refl _)
      | (with_reducible exact LeO.none _)
      | (with_reducible refine LeO.ite ?_ ?_)
      | (with_reducible refine LeO.bind ?_ (fun _ => ?_))
      | exact ih0 _ _ _
      | exact ih1 _ _ _ _
      | exact paronymref29_Compare.mono _ _ _ _ _ _ _ _ _ _ _
      | exact LeO.none _
      | refine LeO.ite ?_ ?_
      | refine LeO.bind ?_ (fun _ => ?_)
theorem paronymref29_Sort.mono : ∀ a0 k, LeO (paronymref29_Sort.f k a0) (paronymref29_Sort.f (k + 1) a0) := by
  intro a0 k
  obtain ⟨ih0, ih1⟩ := paronymref29_Sort.mono_l k
  unfold paronymref29_Sort.f
  repeat' first
      | (with_reducible exact ih0 _ _ _)
      | (with_reducible exact ih1 _ _ _ _)
      | (with_reducible exact paronymref29_Compare.mono _ _ _ _ _ _ _ _ _ _ _)
      | (with_reducible exact LeO.refl _)
      | (with_reducible exact LeO.none _)
      | (with_reducible refine LeO.ite ?_ ?_)
      | (with_reducible refine LeO.bind ?_ (fun _ => ?_))
      | exact ih0 _ _ _
      | exact ih1 _ _ _ _
      | exact paronymref29_Compare.mono _ _ _ _ _ _ _ _ _ _ _
      | exact LeO.none _
      | refine LeO.ite ?_ ?_
      | refine LeO.bind ?_ (fun _ => ?_)
def paronymref29_Sort.T6 : Bool × List (List Nat × List Nat) := (true, [([], []), ([0], [0]), ([1], [1]), ([2], [2]), ([2], [2]), ([4, 2], [2, 4]), ([3, 5, 2], [2, 3, 5]), ([6, 2], [2, 6]), ([2], [2]), ([2], [2]), ([8, 9, 2], [2, 8, 9]), ([10, 2], [2, 10]), ([7, 11, 2, 2], [2, 7, 11]), ([12, 2], [2, 12]), ([2, 13], [2, 13])])
def paronymref29_Sort.B6 : List Nat := [0, 1, 3, 7, 7, 23, 63, 127, 7, 7, 775, 1799, 4095, 8191, 16383]
theorem paronymref29_Sort.tab6 : rtab .any (opsOf Try.f27 6) = paronymref29_Sort.T6 := by kernel_rfl
theorem paronymref29_Sort.bits6 : waitsOk paronymref29_Sort.T6.2 paronymref29_Sort.B6 = true := by kernel_rfl
def paronymref29_Sort.T8 : Bool × List (List Nat × List Nat) := (true, [([], []), ([0], [0]), ([1], [1]), ([2], [2]), ([2], [2]), ([4, 2], [2, 4]), ([3, 5, 2], [2, 3, 5]), ([6, 2], [2, 6]), ([2], [2]), ([2], [2]), ([8, 9, 2], [2, 8, 9]), ([10, 2], [2, 10]), ([7, 11, 2, 2], [2, 7, 11]), ([12, 2], [2, 12]), ([2, 13], [2, 13])])
def paronymref29_Sort.B8 : List Nat := [0, 1, 3, 7, 7, 23, 63, 127, 7, 7, 775, 1799, 4095, 8191, 16383]
theorem paronymref29_Sort.tab8 : rtab .any (opsOf Try.f27 8) = paronymref29_Sort.T8 := by kernel_rfl
theorem paronymref29_Sort.bits8 : waitsOk paronymref29_Sort.T8.2 paronymref29_Sort.B8 = true := by kernel_rfl
set_option maxHeartbeats 8000000 in
set_option maxRecDepth 100000 in
theorem paronymref29_Sort.calls (k : Nat) (P0_ : Nat → Prop) (A0 : Option Addr) (c0 : Nat) (l0 : List (S33)) (r : List (S33)) (w : World) (hs0 : Kd.V k33 33 w w.heap.size (fun k_ => P0_ k_) (.slice A0 l0.length c0) l0) (h : paronymref29_Sort.f k l0 = some r) :
    Calls Try.prog 27 #[.slice A0 l0.length c0] w fun e w' => ∃ v0_ : Value, e = .returned (v0_) ∧ Kd.N k33 33 w' w.heap.size (fun k_ => (P0_ k_ ∨ w.heap.size ≤ k_)) v0_ r ∧ Below w.heap.size w w' := by
  have hu33 := Try.underlying33
  have HO0 := Aside0.mk (show Kd.V k33 33 w w.heap.size (fun k_ => (P0_ k_ ∨ w.heap.size ≤ k_)) (.slice A0 l0.length c0) l0 from Kd.V_mono hs0 (fun k_ hk => .inl hk))
  have HB := Aside0.mk (Below.refl w.heap.size w)
  have H : (paronymref29_Sort.l0 k l0 ([] : List (S33)) 0) = some r := h
  clear h
  have H' := Aside0.mk H
  clear H
  go_enter Try.func27, Try.ntmps27
  go_wp2
  go_loopg [3, 4] k (fun kq v3 v4 w' => ∃ (x3_1 : List (S33)) (x4_1 : Int), v4 = .int .i64 x4_1 ∧ Aside0 (paronymref29_Sort.l0 kq l0 x3_1 x4_1 = some r) ∧ Aside0 (kq ≤ k) ∧ Aside0 (Kd.V k33 33 w' w.heap.size (fun k_ => (P0_ k_ ∨ w.heap.size ≤ k_) ∧ some k_ ≠ (v3 : Value).ownBlock) (.slice A0 l0.length c0) l0) ∧ Aside0 (Kd.N k33 33 w' w.heap.size (fun k_ => (P0_ k_ ∨ w.heap.size ≤ k_)) v3 x3_1) ∧ Aside0 (Below w.heap.size w w'))
  case atStart => exact ⟨(([] : List (S33))), (0), (by first | rfl | (simp; done) | (simp [*]; done)), H', ⟨Nat.le_refl _⟩, ⟨by (with_reducible repeat (first | apply Kd.V_alloc | apply Kd.V_drewN | apply Kd.V_drew)); exact Kd.V_mono HO0.out (fun _ hk => ⟨hk, (by simp [Value.ownBlock])⟩)⟩, ⟨by first | exact Kd.S_nil _ _ _ _ _ | exact Kd.N_nil _ _ _ _ _ | exact Kd.V_nil _ _ _ _ _ | exact Kd.Q_nil _ _ _ _ _ | exact Kd.R_nil _ _ _ _ _⟩, ⟨by repeat (first | (with_reducible first | exact HB.out | apply below_alloc | apply pw_below_drewN | apply below_drew1) | exact HB.out)⟩⟩
  case round =>
    clear H'
    obtain ⟨x3_1, x4_1, rfl, HA, HK1, HO_0, HO_3, HB⟩ := hrel
    cases gk with
    | zero => exact absurd HA.out (by simp [paronymref29_Sort.l0])
    | succ k1 =>
      have H := HA.out
      clear HA
      simp only [paronymref29_Sort.l0] at H
      by_cases c2 : x4_1 < (l0.length : Int)
      · rw [if_pos c2] at H
        have c2b0 : decide (x4_1 < (l0.length : Int)) = true := decide_eq_true c2
        clear c2
        have H' := Aside0.mk H
        clear H
        obtain ⟨Ao3, co3, eo3⟩ := Kd.N_slice HO_3.out
        subst eo3
        go_wp2
        go_loopg [5] k1 (fun kq v5 w' => ∃ (x5_2 : Int), v5 = .int .i64 x5_2 ∧ Aside0 (paronymref29_Sort.l1 kq l0 x3_1 x4_1 x5_2 = some r) ∧ Aside0 (kq ≤ k1) ∧ Aside0 (Kd.V k33 33 w' w.heap.size (fun k_ => (P0_ k_ ∨ w.heap.size ≤ k_) ∧ some k_ ≠ ((.slice Ao3 x3_1.length co3) : Value).ownBlock) (.slice A0 l0.length c0) l0) ∧ Aside0 (Kd.N k33 33 w' w.heap.size (fun k_ => (P0_ k_ ∨ w.heap.size ≤ k_)) (.slice Ao3 x3_1.length co3) x3_1) ∧ Aside0 (Below w.heap.size w w'))
        case atStart => exact ⟨((x3_1.length : Int)), (by first | rfl | (simp; done) | (simp [*]; done)), H', ⟨Nat.le_refl _⟩, ⟨by (with_reducible repeat (first | apply Kd.V_alloc | apply Kd.V_drewN | apply Kd.V_drew)); exact HO_0.out⟩, ⟨by (with_reducible repeat (first | apply Kd.N_alloc | apply Kd.N_drewN | apply Kd.N_drew)); exact HO_3.out⟩, ⟨by repeat (first | (with_reducible first | exact HB.out | apply below_alloc | apply pw_below_drewN | apply below_drew1) | exact HB.out)⟩⟩
        case round =>
          clear H'
          try clear c2
          try clear c2b0
          try clear p2
          obtain ⟨x5_2, rfl, HA, HK2, HO_0, HO_3, HB⟩ := hrel
          cases gk with
          | zero => exact absurd HA.out (by simp [paronymref29_Sort.l1])
          | succ k2 =>
            have H := HA.out
            clear HA
            simp only [paronymref29_Sort.l1] at H
            by_cases c4 : x5_2 > 0
            · rw [if_pos c4] at H
              have c4b0 : decide (0 < x5_2) = true := decide_eq_true c4
              clear c4
              obtain ⟨ji5, hji5⟩ : ∃ j_ : Int, (wrap64 (x5_2 - 1)) = j_ := ⟨_, rfl⟩
              replace H : (if 0 ≤ (ji5) then (if (ji5) < (x3_1.length : Int) then (if 0 ≤ x4_1 then (if x4_1 < (l0.length : Int) then ((paronymref29_Compare.f k2 ((rd_T33 x3_1 (ji5)).f0) ((rd_T33 x3_1 (ji5)).f1) ((rd_T33 x3_1 (ji5)).f2) ((rd_T33 x3_1 (ji5)).f3) ((rd_T33 x3_1 (ji5)).f4) ((rd_T33 l0 x4_1).f0) ((rd_T33 l0 x4_1).f1) ((rd_T33 l0 x4_1).f2) ((rd_T33 l0 x4_1).f3) ((rd_T33 l0 x4_1).f4)).bind fun t139 => (if t139 > 0 then (paronymref29_Sort.l1 k2 l0 x3_1 x4_1 ji5) else ((paronymref29_Compare.f k2 ((rd_T33 x3_1 (ji5)).f0) ((rd_T33 x3_1 (ji5)).f1) ((rd_T33 x3_1 (ji5)).f2) ((rd_T33 x3_1 (ji5)).f3) ((rd_T33 x3_1 (ji5)).f4) ((rd_T33 l0 x4_1).f0) ((rd_T33 l0 x4_1).f1) ((rd_T33 l0 x4_1).f2) ((rd_T33 l0 x4_1).f3) ((rd_T33 l0 x4_1).f4)).bind fun t142 => (if t142 = 0 then (paronymref29_Sort.l0 k2 l0 x3_1 (wrap64 (x4_1 + 1))) else (if 0 ≤ x5_2 then (if x5_2 ≤ (x3_1.length : Int) then ((some (x3_1.take (x5_2 : Int).toNat : List (S33))).bind fun y143 => (if ([] : List (S33)).length + y143.length < 2513169434916 then ((some (([] : List (S33)) ++ y143 : List (S33))).bind fun y148 => (if y148.length < 2513169434916 then ((some (y148 ++ [(⟨(rd_T33 l0 x4_1).f0, (rd_T33 l0 x4_1).f1, (rd_T33 l0 x4_1).f2, (rd_T33 l0 x4_1).f3, (rd_T33 l0 x4_1).f4⟩ : S33)] : List (S33))).bind fun y152 => ((some (x3_1.drop (x5_2 : Int).toNat : List (S33))).bind fun y155 => (if y152.length + y155.length < 2513169434916 then (paronymref29_Sort.l0 k2 l0 (y152 ++ y155) (wrap64 (x4_1 + 1))) else (none)))) else (none))) else (none))) else (none)) else (none)))))) else (none)) else (none)) else (none)) else (none)) = some r := by first | (rw [hji5] at H; exact H) | (simp only [hji5] at H ⊢; exact H)
              have hji5w : (IntKind.i64.wrap (x5_2 - 1)) = ji5 := (i64_w _).trans hji5
              by_cases c6 : 0 ≤ (ji5)
              · rw [if_pos c6] at H
                have c6b0 : decide (0 ≤ (ji5)) = true := decide_eq_true c6
                clear c6
                by_cases c7 : (ji5) < (x3_1.length : Int)
                · rw [if_pos c7] at H
                  have c7b0 : decide ((ji5) < (x3_1.length : Int)) = true := decide_eq_true c7
                  clear c7
                  by_cases c8 : 0 ≤ x4_1
                  · rw [if_pos c8] at H
                    have c8b0 : decide (0 ≤ x4_1) = true := decide_eq_true c8
                    clear c8
                    by_cases c9 : x4_1 < (l0.length : Int)
                    · rw [if_pos c9] at H
                      have c9b0 : decide (x4_1 < (l0.length : Int)) = true := decide_eq_true c9
                      clear c9
                      replace H := Option.bind_eq_some_iff.mp H
                      obtain ⟨t139, A100, H⟩ := H
                      replace H : (if t139 > 0 then (paronymref29_Sort.l1 k2 l0 x3_1 x4_1 ji5) else ((paronymref29_Compare.f k2 ((rd_T33 x3_1 (ji5)).f0) ((rd_T33 x3_1 (ji5)).f1) ((rd_T33 x3_1 (ji5)).f2) ((rd_T33 x3_1 (ji5)).f3) ((rd_T33 x3_1 (ji5)).f4) ((rd_T33 l0 x4_1).f0) ((rd_T33 l0 x4_1).f1) ((rd_T33 l0 x4_1).f2) ((rd_T33 l0 x4_1).f3) ((rd_T33 l0 x4_1).f4)).bind fun t142 => (if t142 = 0 then (paronymref29_Sort.l0 k2 l0 x3_1 (wrap64 (x4_1 + 1))) else (if 0 ≤ x5_2 then (if x5_2 ≤ (x3_1.length : Int) then ((some (x3_1.take (x5_2 : Int).toNat : List (S33))).bind fun y143 => (if ([] : List (S33)).length + y143.length < 2513169434916 then ((some (([] : List (S33)) ++ y143 : List (S33))).bind fun y148 => (if y148.length < 2513169434916 then ((some (y148 ++ [(⟨(rd_T33 l0 x4_1).f0, (rd_T33 l0 x4_1).f1, (rd_T33 l0 x4_1).f2, (rd_T33 l0 x4_1).f3, (rd_T33 l0 x4_1).f4⟩ : S33)] : List (S33))).bind fun y152 => ((some (x3_1.drop (x5_2 : Int).toNat : List (S33))).bind fun y155 => (if y152.length + y155.length < 2513169434916 then (paronymref29_Sort.l0 k2 l0 (y152 ++ y155) (wrap64 (x4_1 + 1))) else (none)))) else (none))) else (none))) else (none)) else (none))))) = some r := H
                      have A10 := Aside0.mk A100
                      clear A100
                      by_cases c11 : t139 > 0
                      · rw [if_pos c11] at H
                        have c11b0 : decide (0 < t139) = true := decide_eq_true c11
                        clear c11
                        have H' := Aside0.mk H
                        clear H
                        try go_wp2
                        have n0_ := Aside0.mk (Kd.V_drew HO_0.out)
                        have n1_ := Aside0.mk (Kd.N_drew HO_3.out)
                        have n2_ := Aside0.mk (below_drew1 HB.out)
                        clear HO_0
                        clear HO_3
                        clear HB
                        have HO_0 := n0_
                        have HO_3 := n1_
                        have HB := n2_
                        clear n0_ n1_ n2_
                        have p137 : 0 ≤ ((ji5) : Int) := of_decide_eq_true (by first | (with_reducible assumption) | assumption)
                        have q137 : (ji5) < (x3_1.length : Int) := of_decide_eq_true (by first | (with_reducible assumption) | assumption)
                        obtain ⟨ad137, A137_0, c137_0, e137, hx137_0, hx137_1, hx137_2, hx137_3, hx137_4, hl137_0, hi137_0⟩ := at_T33 (Kd.N_reads' HO_3.out).2.2 (ji5) p137 q137
                        cases e137
                        obtain ⟨ce137, hce137, hMe137, hcc137⟩ := Kd.N_get HO_3.out z33 (ji5) p137 (by first | exact q137 | exact of_decide_eq_true (by first | (with_reducible assumption) | assumption) | (have e_ := (Kd.N_reads' HO_3.out).1; omega))
                        obtain ⟨ua137_0, uc137_0, rfl, ul137_0, ge137_0⟩ := k33_openF hMe137
                        have hv137_0 := hcc137 0 _ rfl
                        rw [Nat.add_zero] at hv137_0
                        replace hv137_0 := Option.some.inj (hv137_0.symm.trans hx137_0)
                        injection hv137_0 with hva_ hvn_ hvc_
                        rw [hva_] at ge137_0
                        rw [hvc_] at ul137_0
                        have HL137_0 := Aside0.mk (show Kd.V (Kd.int .i64) 3 _ w.heap.size _ _ ((rd_T33 x3_1 (ji5)).f0) from Kd.V_mk ul137_0 ge137_0)
                        clear hva_ hvn_ hvc_ ge137_0 ul137_0
                        clear hcc137 hce137
                        have HR137_0 := Aside0.mk hi137_0
                        have HC137_0 := Aside0.mk hl137_0
                        clear hi137_0 hl137_0
                        replace p137 := eq_true p137
                        replace q137 := eq_true q137
                        have p138 : 0 ≤ (x4_1 : Int) := of_decide_eq_true (by first | (with_reducible assumption) | assumption)
                        have q138 : x4_1 < (l0.length : Int) := of_decide_eq_true (by first | (with_reducible assumption) | assumption)
                        obtain ⟨ad138, A138_0, c138_0, e138, hx138_0, hx138_1, hx138_2, hx138_3, hx138_4, hl138_0, hi138_0⟩ := at_T33 (Kd.V_reads' HO_0.out).2.2 x4_1 p138 q138
                        cases e138
                        obtain ⟨ce138, hce138, hMe138, hcc138⟩ := Kd.V_get HO_0.out z33 x4_1 p138 (by first | exact q138 | exact of_decide_eq_true (by first | (with_reducible assumption) | assumption) | (have e_ := (Kd.V_reads' HO_0.out).1; omega))
                        obtain ⟨ua138_0, uc138_0, rfl, ul138_0, ge138_0⟩ := k33_openF hMe138
                        have hv138_0 := hcc138 0 _ rfl
                        rw [Nat.add_zero] at hv138_0
                        replace hv138_0 := Option.some.inj (hv138_0.symm.trans hx138_0)
                        injection hv138_0 with hva_ hvn_ hvc_
                        rw [hva_] at ge138_0
                        rw [hvc_] at ul138_0
                        have HL138_0 := Aside0.mk (show Kd.V (Kd.int .i64) 3 _ w.heap.size _ _ ((rd_T33 l0 x4_1).f0) from Kd.V_mk ul138_0 ge138_0)
                        clear hva_ hvn_ hvc_ ge138_0 ul138_0
                        clear hcc138 hce138
                        have HR138_0 := Aside0.mk hi138_0
                        have HC138_0 := Aside0.mk hl138_0
                        clear hi138_0 hl138_0
                        replace p138 := eq_true p138
                        replace q138 := eq_true q138
                        refine start_ (n := 15) (S := fun w' => w'.cell? (ad137.add (((ji5)).toNat * 5)) = some (.slice A137_0 ((rd_T33 x3_1 (ji5)).f0).length c137_0) ∧ w'.cell? ⟨(ad137.add (((ji5)).toNat * 5)).block, (ad137.add (((ji5)).toNat * 5)).off + 1, none⟩ = some (.int .i64 ((rd_T33 x3_1 (ji5)).f1)) ∧ w'.cell? ⟨(ad137.add (((ji5)).toNat * 5)).block, (ad137.add (((ji5)).toNat * 5)).off + 2, none⟩ = some (.int .i64 ((rd_T33 x3_1 (ji5)).f2)) ∧ w'.cell? ⟨(ad137.add (((ji5)).toNat * 5)).block, (ad137.add (((ji5)).toNat * 5)).off + 3, none⟩ = some (.bool ((rd_T33 x3_1 (ji5)).f3)) ∧ w'.cell? ⟨(ad137.add (((ji5)).toNat * 5)).block, (ad137.add (((ji5)).toNat * 5)).off + 4, none⟩ = some (.int .i64 ((rd_T33 x3_1 (ji5)).f4)) ∧ w'.cell? (ad138.add ((x4_1).toNat * 5)) = some (.slice A138_0 ((rd_T33 l0 x4_1).f0).length c138_0) ∧ w'.cell? ⟨(ad138.add ((x4_1).toNat * 5)).block, (ad138.add ((x4_1).toNat * 5)).off + 1, none⟩ = some (.int .i64 ((rd_T33 l0 x4_1).f1)) ∧ w'.cell? ⟨(ad138.add ((x4_1).toNat * 5)).block, (ad138.add ((x4_1).toNat * 5)).off + 2, none⟩ = some (.int .i64 ((rd_T33 l0 x4_1).f2)) ∧ w'.cell? ⟨(ad138.add ((x4_1).toNat * 5)).block, (ad138.add ((x4_1).toNat * 5)).off + 3, none⟩ = some (.bool ((rd_T33 l0 x4_1).f3)) ∧ w'.cell? ⟨(ad138.add ((x4_1).toNat * 5)).block, (ad138.add ((x4_1).toNat * 5)).off + 4, none⟩ = some (.int .i64 ((rd_T33 l0 x4_1).f4))) (ds := []) #[false, false, false, false, false, false, false, false, false, false, false, false, false, false, false] (by kernel_rfl) rfl rfl ⟨hx137_0, hx137_1, hx137_2, hx137_3, hx137_4, hx138_0, hx138_1, hx138_2, hx138_3, hx138_4⟩ (fun hHeld => ?_); refine with_tabW paronymref29_Sort.tab6 paronymref29_Sort.bits6 (fun HT_ HW_ => ?_)
                        generalize wr.drew = w12 at HO_0 HO_3 HB HL137_0 HL138_0 HR137_0 HR138_0 hx137_0 hx137_1 hx137_2 hx137_3 hx137_4 hx138_0 hx138_1 hx138_2 hx138_3 hx138_4 hHeld ⊢
                        refine pure_ (i := 0) (N := some 15) (v := ?_) (a' := ?_) #[true, false, false, false, false, false, false, false, false, false, false, false, false, false, false] rfl rfl (any_of HT_.out (by kernel_rfl)) (fun _ _ _ h => h) (Or.inl ⟨by rfl, ?_⟩) ?_ ?_
                        rotate_left
                        · intro w'
                          go_simp
                          with_reducible rfl
                        rotate_left
                        · simp only [Act.put, List.setIfInBounds_toArray, List.set_cons_zero, List.set_cons_succ, i64_w, i32_w]
                          rfl
                        refine pure_ (i := 1) (N := some 16) (v := ?_) (a' := ?_) #[true, true, false, false, false, false, false, false, false, false, false, false, false, false, false] rfl rfl (any_of HT_.out (by kernel_rfl)) (fun _ _ _ h => h) (Or.inl ⟨by rfl, ?_⟩) ?_ ?_
                        rotate_left
                        · intro w'
                          go_simp
                          with_reducible rfl
                        rotate_left
                        · simp only [Act.put, List.setIfInBounds_toArray, List.set_cons_zero, List.set_cons_succ, i64_w, i32_w]
                          rfl
                        refine pure_ (i := 2) (N := some 17) (v := ?_) (a' := ?_) #[true, true, true, false, false, false, false, false, false, false, false, false, false, false, false] rfl rfl (any_of HT_.out (by kernel_rfl)) (fun _ _ _ h => h) (Or.inl ⟨by rfl, ?_⟩) ?_ ?_
                        rotate_left
                        · intro w'
                          go_simp
                          with_reducible rfl
                        rotate_left
                        · simp only [Act.put, List.setIfInBounds_toArray, List.set_cons_zero, List.set_cons_succ, i64_w, i32_w]
                          rfl
                        refine pure_ (i := 3) (N := some 18) (v := ?_) (a' := ?_) #[true, true, true, true, false, false, false, false, false, false, false, false, false, false, false] rfl rfl (any_of HT_.out (by kernel_rfl)) (fun _ _ _ h => h) (Or.inl ⟨by rfl, ?_⟩) ?_ ?_
                        rotate_left
                        · intro w'
                          go_simp
                          with_reducible rfl
                        rotate_left
                        · simp only [Act.put, List.setIfInBounds_toArray, List.set_cons_zero, List.set_cons_succ, i64_w, i32_w]
                          rfl
                        refine pure_ (i := 4) (N := some 19) (v := ?_) (a' := ?_) #[true, true, true, true, true, false, false, false, false, false, false, false, false, false, false] rfl rfl (any_of HT_.out (by kernel_rfl)) (fun _ _ _ h => h) (Or.inl ⟨by rfl, ?_⟩) ?_ ?_
                        rotate_left
                        · intro w'
                          go_simp
                          with_reducible rfl
                        rotate_left
                        · simp only [Act.put, List.setIfInBounds_toArray, List.set_cons_zero, List.set_cons_succ, i64_w, i32_w]
                          rfl
                        refine pure_ (i := 5) (N := some 20) (v := ?_) (a' := ?_) #[true, true, true, true, true, true, false, false, false, false, false, false, false, false, false] rfl rfl (any_of HT_.out (by kernel_rfl)) (fun _ _ _ h => h) (Or.inl ⟨by rfl, ?_⟩) ?_ ?_
                        rotate_left
                        · intro w'
                          go_simp
                          with_reducible rfl
                        rotate_left
                        · simp only [Act.put, List.setIfInBounds_toArray, List.set_cons_zero, List.set_cons_succ, i64_w, i32_w]
                          rfl
                        refine pure_ (i := 6) (N := some 21) (v := ?_) (a' := ?_) #[true, true, true, true, true, true, true, false, false, false, false, false, false, false, false] rfl rfl (any_of HT_.out (by kernel_rfl)) (fun _ _ _ h => h) (Or.inl ⟨by rfl, ?_⟩) ?_ ?_
                        rotate_left
                        · intro w'
                          go_simp
                          with_reducible rfl
                        rotate_left
                        · simp only [Act.put, List.setIfInBounds_toArray, List.set_cons_zero, List.set_cons_succ, i64_w, i32_w]
                          rfl
                        refine pure_ (i := 8) (N := some 23) (v := ?_) (a' := ?_) #[true, true, true, true, true, true, true, false, true, false, false, false, false, false, false] rfl rfl (any_of HT_.out (by kernel_rfl)) (fun _ _ _ h => h) (Or.inl ⟨by rfl, ?_⟩) ?_ ?_
                        rotate_left
                        · intro w'
                          go_simp
                          with_reducible rfl
                        rotate_left
                        · simp only [Act.put, List.setIfInBounds_toArray, List.set_cons_zero, List.set_cons_succ, i64_w, i32_w]
                          rfl
                        refine pure_ (i := 9) (N := some 24) (v := ?_) (a' := ?_) #[true, true, true, true, true, true, true, false, true, true, false, false, false, false, false] rfl rfl (any_of HT_.out (by kernel_rfl)) (fun _ _ _ h => h) (Or.inl ⟨by rfl, ?_⟩) ?_ ?_
                        rotate_left
                        · intro w'
                          go_simp
                          with_reducible rfl
                        rotate_left
                        · simp only [Act.put, List.setIfInBounds_toArray, List.set_cons_zero, List.set_cons_succ, i64_w, i32_w]
                          rfl
                        refine pure_ (i := 10) (N := some 25) (v := ?_) (a' := ?_) #[true, true, true, true, true, true, true, false, true, true, true, false, false, false, false] rfl rfl (any_of HT_.out (by kernel_rfl)) (fun _ _ _ h => h) (Or.inl ⟨by rfl, ?_⟩) ?_ ?_
                        rotate_left
                        · intro w'
                          go_simp
                          with_reducible rfl
                        rotate_left
                        · simp only [Act.put, List.setIfInBounds_toArray, List.set_cons_zero, List.set_cons_succ, i64_w, i32_w]
                          rfl
                        refine take_ (i := 7) (N := some 22) (v := ?_) (a' := ?_) #[true, true, true, true, true, true, true, true, true, true, true, false, false, false, false] rfl rfl (take_ofW HT_.out HW_.out (by kernel_rfl)) (fun _ _ _ h => h) (Or.inl ⟨by rfl, ?_⟩) hHeld ?_ ?_
                        rotate_left
                        · rintro w' ⟨s0, s1, s2, s3, s4, s5, s6, s7, s8, s9⟩
                          go_simp
                          with_reducible rfl
                        rotate_left
                        · simp only [Act.put, List.setIfInBounds_toArray, List.set_cons_zero, List.set_cons_succ, i64_w, i32_w]
                          rfl
                        refine take_ (i := 11) (N := some 26) (v := ?_) (a' := ?_) #[true, true, true, true, true, true, true, true, true, true, true, true, false, false, false] rfl rfl (take_ofW HT_.out HW_.out (by kernel_rfl)) (fun _ _ _ h => h) (Or.inl ⟨by rfl, ?_⟩) hHeld ?_ ?_
                        rotate_left
                        · rintro w' ⟨s0, s1, s2, s3, s4, s5, s6, s7, s8, s9⟩
                          go_simp
                          with_reducible rfl
                        rotate_left
                        · simp only [Act.put, List.setIfInBounds_toArray, List.set_cons_zero, List.set_cons_succ, i64_w, i32_w]
                          rfl
                        refine one_ (i := 12) (N := some 27) #[true, true, true, true, true, true, true, true, true, true, true, true, true, false, false] rfl rfl (one_of HT_.out (by kernel_rfl)) (by decide) (fun K hK => ?_)
                        refine goes_ Try.func26 (by kernel_rfl) rfl #[.agg #[.slice A137_0 ((rd_T33 x3_1 (ji5)).f0).length c137_0, .int .i64 ((rd_T33 x3_1 (ji5)).f1), .int .i64 ((rd_T33 x3_1 (ji5)).f2), .bool ((rd_T33 x3_1 (ji5)).f3), .int .i64 ((rd_T33 x3_1 (ji5)).f4)], .agg #[.slice A138_0 ((rd_T33 l0 x4_1).f0).length c138_0, .int .i64 ((rd_T33 l0 x4_1).f1), .int .i64 ((rd_T33 l0 x4_1).f2), .bool ((rd_T33 l0 x4_1).f3), .int .i64 ((rd_T33 l0 x4_1).f4)]] (by rfl) rfl rfl (by (try simp only [List.map_toArray, List.map_cons, List.map_nil]); first | done | (simp only [hji5]; rfl) | rfl | (simp only [List.length_drop, List.length_take]; rfl)) ?_
                        with_reducible refine (paronymref29_Compare.calls k2 _ _ ((rd_T33 x3_1 (ji5)).f0) ((rd_T33 x3_1 (ji5)).f1) ((rd_T33 x3_1 (ji5)).f2) ((rd_T33 x3_1 (ji5)).f3) ((rd_T33 x3_1 (ji5)).f4) _ _ ((rd_T33 l0 x4_1).f0) ((rd_T33 l0 x4_1).f1) ((rd_T33 l0 x4_1).f2) ((rd_T33 l0 x4_1).f3) ((rd_T33 l0 x4_1).f4) t139 _ ?side1 ?side2 ?side3 ?side4 A10.out).mono ?_
                        (case side1 => repeat (first | exact (by repeat (first | (with_reducible exact HR137_0.out) | (with_reducible refine Kd.C_alloc ?_ _) | (with_reducible refine Kd.C_drewN ?_ _) | (with_reducible refine Kd.C_drew ?_) | exact HR137_0.out)) | (with_reducible refine Kd.C_alloc ?_ _) | (with_reducible refine Kd.C_drewN ?_ _) | (with_reducible refine Kd.C_drew ?_)))
                        (case side2 => exact HC137_0.out)
                        (case side3 => repeat (first | exact (by repeat (first | (with_reducible exact HR138_0.out) | (with_reducible refine Kd.C_alloc ?_ _) | (with_reducible refine Kd.C_drewN ?_ _) | (with_reducible refine Kd.C_drew ?_) | exact HR138_0.out)) | (with_reducible refine Kd.C_alloc ?_ _) | (with_reducible refine Kd.C_drewN ?_ _) | (with_reducible refine Kd.C_drew ?_)))
                        (case side4 => exact HC138_0.out)
                        rintro e w13 ⟨rfl, hb⟩
                        have HS0_ := (hb.cell (World.block_lt_of_cell? _ _ (hHeld.1))).trans (hHeld.1)
                        have HS1_ := (hb.cell (World.block_lt_of_cell? _ _ (hHeld.2.1))).trans (hHeld.2.1)
                        have HS2_ := (hb.cell (World.block_lt_of_cell? _ _ (hHeld.2.2.1))).trans (hHeld.2.2.1)
                        have HS3_ := (hb.cell (World.block_lt_of_cell? _ _ (hHeld.2.2.2.1))).trans (hHeld.2.2.2.1)
                        have HS4_ := (hb.cell (World.block_lt_of_cell? _ _ (hHeld.2.2.2.2.1))).trans (hHeld.2.2.2.2.1)
                        have HS5_ := (hb.cell (World.block_lt_of_cell? _ _ (hHeld.2.2.2.2.2.1))).trans (hHeld.2.2.2.2.2.1)
                        have HS6_ := (hb.cell (World.block_lt_of_cell? _ _ (hHeld.2.2.2.2.2.2.1))).trans (hHeld.2.2.2.2.2.2.1)
                        have HS7_ := (hb.cell (World.block_lt_of_cell? _ _ (hHeld.2.2.2.2.2.2.2.1))).trans (hHeld.2.2.2.2.2.2.2.1)
                        have HS8_ := (hb.cell (World.block_lt_of_cell? _ _ (hHeld.2.2.2.2.2.2.2.2.1))).trans (hHeld.2.2.2.2.2.2.2.2.1)
                        have HS9_ := (hb.cell (World.block_lt_of_cell? _ _ (hHeld.2.2.2.2.2.2.2.2.2))).trans (hHeld.2.2.2.2.2.2.2.2.2)
                        refine ⟨_, rfl, ?_⟩
                        have n0_ := Aside0.mk (Kd.V_below (by (with_reducible repeat (first | apply Kd.V_alloc | apply Kd.V_drewN | apply Kd.V_drew)); exact HO_0.out) hb)
                        have n1_ := Aside0.mk (Kd.N_below (by (with_reducible repeat (first | apply Kd.N_alloc | apply Kd.N_drewN | apply Kd.N_drew)); exact HO_3.out) hb)
                        have n2_ := Aside0.mk (Kd.V_below (by (with_reducible repeat (first | apply Kd.V_alloc | apply Kd.V_drewN | apply Kd.V_drew)); exact HL137_0.out) hb)
                        have n3_ := Aside0.mk (Kd.V_below (by (with_reducible repeat (first | apply Kd.V_alloc | apply Kd.V_drewN | apply Kd.V_drew)); exact HL138_0.out) hb)
                        have n4_ := Aside0.mk (Kd.C_below (by repeat (first | (with_reducible exact HR137_0.out) | (with_reducible refine Kd.C_alloc ?_ _) | (with_reducible refine Kd.C_drewN ?_ _) | (with_reducible refine Kd.C_drew ?_) | exact HR137_0.out)) hb)
                        have n5_ := Aside0.mk (Kd.C_below (by repeat (first | (with_reducible exact HR138_0.out) | (with_reducible refine Kd.C_alloc ?_ _) | (with_reducible refine Kd.C_drewN ?_ _) | (with_reducible refine Kd.C_drew ?_) | exact HR138_0.out)) hb)
                        have n6_ := Aside0.mk (below_step (by repeat (first | (with_reducible first | exact HB.out | apply below_alloc | apply pw_below_drewN | apply below_drew1) | exact HB.out)) hb)
                        clear HO_0
                        clear HO_3
                        clear HL137_0
                        clear HL138_0
                        clear HR137_0
                        clear HR138_0
                        clear HB
                        have HO_0 := n0_
                        have HO_3 := n1_
                        have HL137_0 := n2_
                        have HL138_0 := n3_
                        have HR137_0 := n4_
                        have HR138_0 := n5_
                        have HB := n6_
                        clear n0_ n1_ n2_ n3_ n4_ n5_ n6_
                        (try clear hb)
                        (try clear hb2)
                        (try clear hk)
                        (try clear hi)
                        refine hK.out _ _ ⟨HS0_, HS1_, HS2_, HS3_, HS4_, HS5_, HS6_, HS7_, HS8_, HS9_⟩ (fun hHeld => ?_)
                        clear hK K
                        refine norm_ (a' := ?_) ?_ ?_
                        rotate_left
                        · show Act.put _ (some 27) _ = _
                          simp only [Act.put, List.setIfInBounds_toArray, List.set_cons_zero, List.set_cons_succ, i64_w, i32_w]
                          rfl
                        refine pure_ (i := 13) (N := some 28) (v := ?_) (a' := ?_) #[true, true, true, true, true, true, true, true, true, true, true, true, true, true, false] rfl rfl (any_of HT_.out (by kernel_rfl)) (fun _ _ _ h => h) (Or.inl ⟨by rfl, ?_⟩) ?_ ?_
                        rotate_left
                        · intro w'
                          go_simp
                          with_reducible rfl
                        rotate_left
                        · simp only [Act.put, List.setIfInBounds_toArray, List.set_cons_zero, List.set_cons_succ, i64_w, i32_w]
                          rfl
                        refine pure_ (i := 14) (N := some 29) (v := ?_) (a' := ?_) #[true, true, true, true, true, true, true, true, true, true, true, true, true, true, true] rfl rfl (any_of HT_.out (by kernel_rfl)) (fun _ _ _ h => h) (Or.inl ⟨by rfl, ?_⟩) ?_ ?_
                        rotate_left
                        · intro w'
                          go_simp
                          with_reducible rfl
                        rotate_left
                        · simp only [Act.put, List.setIfInBounds_toArray, List.set_cons_zero, List.set_cons_succ, i64_w, i32_w]
                          rfl
                        refine done_ (done_of HT_.out (by kernel_rfl)) ?_
                        try go_wp2
                        go_roundg k2
                        case measure => have := HK1.out; have := HK2.out; omega
                        case rel => exact ⟨(ji5), (by first | rfl | (simp; done) | (simp only [← hji5] <;> (first | rfl | simp)) | (simp [*]; done)), H', ⟨by have := HK1.out; have := HK2.out; omega⟩, ⟨by (with_reducible repeat (first | apply Kd.V_alloc | apply Kd.V_drewN | apply Kd.V_drew)); exact HO_0.out⟩, ⟨by (with_reducible repeat (first | apply Kd.N_alloc | apply Kd.N_drewN | apply Kd.N_drew)); exact HO_3.out⟩, ⟨by repeat (first | (with_reducible first | exact HB.out | apply below_alloc | apply pw_below_drewN | apply below_drew1) | exact HB.out)⟩⟩
                      · rw [if_neg c11] at H
                        have c11b0 : decide (0 < t139) = false := decide_eq_false c11
                        clear c11
                        replace H := Option.bind_eq_some_iff.mp H
                        obtain ⟨t142, A140, H⟩ := H
                        replace H : (if t142 = 0 then (paronymref29_Sort.l0 k2 l0 x3_1 (wrap64 (x4_1 + 1))) else (if 0 ≤ x5_2 then (if x5_2 ≤ (x3_1.length : Int) then ((some (x3_1.take (x5_2 : Int).toNat : List (S33))).bind fun y143 => (if ([] : List (S33)).length + y143.length < 2513169434916 then ((some (([] : List (S33)) ++ y143 : List (S33))).bind fun y148 => (if y148.length < 2513169434916 then ((some (y148 ++ [(⟨(rd_T33 l0 x4_1).f0, (rd_T33 l0 x4_1).f1, (rd_T33 l0 x4_1).f2, (rd_T33 l0 x4_1).f3, (rd_T33 l0 x4_1).f4⟩ : S33)] : List (S33))).bind fun y152 => ((some (x3_1.drop (x5_2 : Int).toNat : List (S33))).bind fun y155 => (if y152.length + y155.length < 2513169434916 then (paronymref29_Sort.l0 k2 l0 (y152 ++ y155) (wrap64 (x4_1 + 1))) else (none)))) else (none))) else (none))) else (none)) else (none))) = some r := H
                        have A14 := Aside0.mk A140
                        clear A140
                        by_cases c15 : t142 = 0
                        · rw [if_pos c15] at H
                          have c15b0 : (t142 == 0) = true := beq_iff_eq.mpr c15
                          have c15b1 : (t142 != 0) = false := bne_eq_false_iff_eq.mpr c15
                          clear c15
                          have H' := Aside0.mk H
                          clear H
                          try go_wp2
                          have n0_ := Aside0.mk (Kd.V_drew HO_0.out)
                          have n1_ := Aside0.mk (Kd.N_drew HO_3.out)
                          have n2_ := Aside0.mk (below_drew1 HB.out)
                          clear HO_0
                          clear HO_3
                          clear HB
                          have HO_0 := n0_
                          have HO_3 := n1_
                          have HB := n2_
                          clear n0_ n1_ n2_
                          have p137 : 0 ≤ ((ji5) : Int) := of_decide_eq_true (by first | (with_reducible assumption) | assumption)
                          have q137 : (ji5) < (x3_1.length : Int) := of_decide_eq_true (by first | (with_reducible assumption) | assumption)
                          obtain ⟨ad137, A137_0, c137_0, e137, hx137_0, hx137_1, hx137_2, hx137_3, hx137_4, hl137_0, hi137_0⟩ := at_T33 (Kd.N_reads' HO_3.out).2.2 (ji5) p137 q137
                          cases e137
                          obtain ⟨ce137, hce137, hMe137, hcc137⟩ := Kd.N_get HO_3.out z33 (ji5) p137 (by first | exact q137 | exact of_decide_eq_true (by first | (with_reducible assumption) | assumption) | (have e_ := (Kd.N_reads' HO_3.out).1; omega))
                          obtain ⟨ua137_0, uc137_0, rfl, ul137_0, ge137_0⟩ := k33_openF hMe137
                          have hv137_0 := hcc137 0 _ rfl
                          rw [Nat.add_zero] at hv137_0
                          replace hv137_0 := Option.some.inj (hv137_0.symm.trans hx137_0)
                          injection hv137_0 with hva_ hvn_ hvc_
                          rw [hva_] at ge137_0
                          rw [hvc_] at ul137_0
                          have HL137_0 := Aside0.mk (show Kd.V (Kd.int .i64) 3 _ w.heap.size _ _ ((rd_T33 x3_1 (ji5)).f0) from Kd.V_mk ul137_0 ge137_0)
                          clear hva_ hvn_ hvc_ ge137_0 ul137_0
                          clear hcc137 hce137
                          have HR137_0 := Aside0.mk hi137_0
                          have HC137_0 := Aside0.mk hl137_0
                          clear hi137_0 hl137_0
                          replace p137 := eq_true p137
                          replace q137 := eq_true q137
                          have p138 : 0 ≤ (x4_1 : Int) := of_decide_eq_true (by first | (with_reducible assumption) | assumption)
                          have q138 : x4_1 < (l0.length : Int) := of_decide_eq_true (by first | (with_reducible assumption) | assumption)
                          obtain ⟨ad138, A138_0, c138_0, e138, hx138_0, hx138_1, hx138_2, hx138_3, hx138_4, hl138_0, hi138_0⟩ := at_T33 (Kd.V_reads' HO_0.out).2.2 x4_1 p138 q138
                          cases e138
                          obtain ⟨ce138, hce138, hMe138, hcc138⟩ := Kd.V_get HO_0.out z33 x4_1 p138 (by first | exact q138 | exact of_decide_eq_true (by first | (with_reducible assumption) | assumption) | (have e_ := (Kd.V_reads' HO_0.out).1; omega))
                          obtain ⟨ua138_0, uc138_0, rfl, ul138_0, ge138_0⟩ := k33_openF hMe138
                          have hv138_0 := hcc138 0 _ rfl
                          rw [Nat.add_zero] at hv138_0
                          replace hv138_0 := Option.some.inj (hv138_0.symm.trans hx138_0)
                          injection hv138_0 with hva_ hvn_ hvc_
                          rw [hva_] at ge138_0
                          rw [hvc_] at ul138_0
                          have HL138_0 := Aside0.mk (show Kd.V (Kd.int .i64) 3 _ w.heap.size _ _ ((rd_T33 l0 x4_1).f0) from Kd.V_mk ul138_0 ge138_0)
                          clear hva_ hvn_ hvc_ ge138_0 ul138_0
                          clear hcc138 hce138
                          have HR138_0 := Aside0.mk hi138_0
                          have HC138_0 := Aside0.mk hl138_0
                          clear hi138_0 hl138_0
                          replace p138 := eq_true p138
                          replace q138 := eq_true q138
                          refine start_ (n := 15) (S := fun w' => w'.cell? (ad137.add (((ji5)).toNat * 5)) = some (.slice A137_0 ((rd_T33 x3_1 (ji5)).f0).length c137_0) ∧ w'.cell? ⟨(ad137.add (((ji5)).toNat * 5)).block, (ad137.add (((ji5)).toNat * 5)).off + 1, none⟩ = some (.int .i64 ((rd_T33 x3_1 (ji5)).f1)) ∧ w'.cell? ⟨(ad137.add (((ji5)).toNat * 5)).block, (ad137.add (((ji5)).toNat * 5)).off + 2, none⟩ = some (.int .i64 ((rd_T33 x3_1 (ji5)).f2)) ∧ w'.cell? ⟨(ad137.add (((ji5)).toNat * 5)).block, (ad137.add (((ji5)).toNat * 5)).off + 3, none⟩ = some (.bool ((rd_T33 x3_1 (ji5)).f3)) ∧ w'.cell? ⟨(ad137.add (((ji5)).toNat * 5)).block, (ad137.add (((ji5)).toNat * 5)).off + 4, none⟩ = some (.int .i64 ((rd_T33 x3_1 (ji5)).f4)) ∧ w'.cell? (ad138.add ((x4_1).toNat * 5)) = some (.slice A138_0 ((rd_T33 l0 x4_1).f0).length c138_0) ∧ w'.cell? ⟨(ad138.add ((x4_1).toNat * 5)).block, (ad138.add ((x4_1).toNat * 5)).off + 1, none⟩ = some (.int .i64 ((rd_T33 l0 x4_1).f1)) ∧ w'.cell? ⟨(ad138.add ((x4_1).toNat * 5)).block, (ad138.add ((x4_1).toNat * 5)).off + 2, none⟩ = some (.int .i64 ((rd_T33 l0 x4_1).f2)) ∧ w'.cell? ⟨(ad138.add ((x4_1).toNat * 5)).block, (ad138.add ((x4_1).toNat * 5)).off + 3, none⟩ = some (.bool ((rd_T33 l0 x4_1).f3)) ∧ w'.cell? ⟨(ad138.add ((x4_1).toNat * 5)).block, (ad138.add ((x4_1).toNat * 5)).off + 4, none⟩ = some (.int .i64 ((rd_T33 l0 x4_1).f4))) (ds := []) #[false, false, false, false, false, false, false, false, false, false, false, false, false, false, false] (by kernel_rfl) rfl rfl ⟨hx137_0, hx137_1, hx137_2, hx137_3, hx137_4, hx138_0, hx138_1, hx138_2, hx138_3, hx138_4⟩ (fun hHeld => ?_); refine with_tabW paronymref29_Sort.tab6 paronymref29_Sort.bits6 (fun HT_ HW_ => ?_)
                          generalize wr.drew = w16 at HO_0 HO_3 HB HL137_0 HL138_0 HR137_0 HR138_0 hx137_0 hx137_1 hx137_2 hx137_3 hx137_4 hx138_0 hx138_1 hx138_2 hx138_3 hx138_4 hHeld ⊢
                          refine pure_ (i := 0) (N := some 15) (v := ?_) (a' := ?_) #[true, false, false, false, false, false, false, false, false, false, false, false, false, false, false] rfl rfl (any_of HT_.out (by kernel_rfl)) (fun _ _ _ h => h) (Or.inl ⟨by rfl, ?_⟩) ?_ ?_
                          rotate_left
                          · intro w'
                            go_simp
                            with_reducible rfl
                          rotate_left
                          · simp only [Act.put, List.setIfInBounds_toArray, List.set_cons_zero, List.set_cons_succ, i64_w, i32_w]
                            rfl
                          refine pure_ (i := 1) (N := some 16) (v := ?_) (a' := ?_) #[true, true, false, false, false, false, false, false, false, false, false, false, false, false, false] rfl rfl (any_of HT_.out (by kernel_rfl)) (fun _ _ _ h => h) (Or.inl ⟨by rfl, ?_⟩) ?_ ?_
                          rotate_left
                          · intro w'
                            go_simp
                            with_reducible rfl
                          rotate_left
                          · simp only [Act.put, List.setIfInBounds_toArray, List.set_cons_zero, List.set_cons_succ, i64_w, i32_w]
                            rfl
                          refine pure_ (i := 2) (N := some 17) (v := ?_) (a' := ?_) #[true, true, true, false, false, false, false, false, false, false, false, false, false, false, false] rfl rfl (any_of HT_.out (by kernel_rfl)) (fun _ _ _ h => h) (Or.inl ⟨by rfl, ?_⟩) ?_ ?_
                          rotate_left
                          · intro w'
                            go_simp
                            with_reducible rfl
                          rotate_left
                          · simp only [Act.put, List.setIfInBounds_toArray, List.set_cons_zero, List.set_cons_succ, i64_w, i32_w]
                            rfl
                          refine pure_ (i := 3) (N := some 18) (v := ?_) (a' := ?_) #[true, true, true, true, false, false, false, false, false, false, false, false, false, false, false] rfl rfl (any_of HT_.out (by kernel_rfl)) (fun _ _ _ h => h) (Or.inl ⟨by rfl, ?_⟩) ?_ ?_
                          rotate_left
                          · intro w'
                            go_simp
                            with_reducible rfl
                          rotate_left
                          · simp only [Act.put, List.setIfInBounds_toArray, List.set_cons_zero, List.set_cons_succ, i64_w, i32_w]
                            rfl
                          refine pure_ (i := 4) (N := some 19) (v := ?_) (a' := ?_) #[true, true, true, true, true, false, false, false, false, false, false, false, false, false, false] rfl rfl (any_of HT_.out (by kernel_rfl)) (fun _ _ _ h => h) (Or.inl ⟨by rfl, ?_⟩) ?_ ?_
                          rotate_left
                          · intro w'
                            go_simp
                            with_reducible rfl
                          rotate_left
                          · simp only [Act.put, List.setIfInBounds_toArray, List.set_cons_zero, List.set_cons_succ, i64_w, i32_w]
                            rfl
                          refine pure_ (i := 5) (N := some 20) (v := ?_) (a' := ?_) #[true, true, true, true, true, true, false, false, false, false, false, false, false, false, false] rfl rfl (any_of HT_.out (by kernel_rfl)) (fun _ _ _ h => h) (Or.inl ⟨by rfl, ?_⟩) ?_ ?_
                          rotate_left
                          · intro w'
                            go_simp
                            with_reducible rfl
                          rotate_left
                          · simp only [Act.put, List.setIfInBounds_toArray, List.set_cons_zero, List.set_cons_succ, i64_w, i32_w]
                            rfl
                          refine pure_ (i := 6) (N := some 21) (v := ?_) (a' := ?_) #[true, true, true, true, true, true, true, false, false, false, false, false, false, false, false] rfl rfl (any_of HT_.out (by kernel_rfl)) (fun _ _ _ h => h) (Or.inl ⟨by rfl, ?_⟩) ?_ ?_
                          rotate_left
                          · intro w'
                            go_simp
                            with_reducible rfl
                          rotate_left
                          · simp only [Act.put, List.setIfInBounds_toArray, List.set_cons_zero, List.set_cons_succ, i64_w, i32_w]
                            rfl
                          refine pure_ (i := 8) (N := some 23) (v := ?_) (a' := ?_) #[true, true, true, true, true, true, true, false, true, false, false, false, false, false, false] rfl rfl (any_of HT_.out (by kernel_rfl)) (fun _ _ _ h => h) (Or.inl ⟨by rfl, ?_⟩) ?_ ?_
                          rotate_left
                          · intro w'
                            go_simp
                            with_reducible rfl
                          rotate_left
                          · simp only [Act.put, List.setIfInBounds_toArray, List.set_cons_zero, List.set_cons_succ, i64_w, i32_w]
                            rfl
                          refine pure_ (i := 9) (N := some 24) (v := ?_) (a' := ?_) #[true, true, true, true, true, true, true, false, true, true, false, false, false, false, false] rfl rfl (any_of HT_.out (by kernel_rfl)) (fun _ _ _ h => h) (Or.inl ⟨by rfl, ?_⟩) ?_ ?_
                          rotate_left
                          · intro w'
                            go_simp
                            with_reducible rfl
                          rotate_left
                          · simp only [Act.put, List.setIfInBounds_toArray, List.set_cons_zero, List.set_cons_succ, i64_w, i32_w]
                            rfl
                          refine pure_ (i := 10) (N := some 25) (v := ?_) (a' := ?_) #[true, true, true, true, true, true, true, false, true, true, true, false, false, false, false] rfl rfl (any_of HT_.out (by kernel_rfl)) (fun _ _ _ h => h) (Or.inl ⟨by rfl, ?_⟩) ?_ ?_
                          rotate_left
                          · intro w'
                            go_simp
                            with_reducible rfl
                          rotate_left
                          · simp only [Act.put, List.setIfInBounds_toArray, List.set_cons_zero, List.set_cons_succ, i64_w, i32_w]
                            rfl
                          refine take_ (i := 7) (N := some 22) (v := ?_) (a' := ?_) #[true, true, true, true, true, true, true, true, true, true, true, false, false, false, false] rfl rfl (take_ofW HT_.out HW_.out (by kernel_rfl)) (fun _ _ _ h => h) (Or.inl ⟨by rfl, ?_⟩) hHeld ?_ ?_
                          rotate_left
                          · rintro w' ⟨s0, s1, s2, s3, s4, s5, s6, s7, s8, s9⟩
                            go_simp
                            with_reducible rfl
                          rotate_left
                          · simp only [Act.put, List.setIfInBounds_toArray, List.set_cons_zero, List.set_cons_succ, i64_w, i32_w]
                            rfl
                          refine take_ (i := 11) (N := some 26) (v := ?_) (a' := ?_) #[true, true, true, true, true, true, true, true, true, true, true, true, false, false, false] rfl rfl (take_ofW HT_.out HW_.out (by kernel_rfl)) (fun _ _ _ h => h) (Or.inl ⟨by rfl, ?_⟩) hHeld ?_ ?_
                          rotate_left
                          · rintro w' ⟨s0, s1, s2, s3, s4, s5, s6, s7, s8, s9⟩
                            go_simp
                            with_reducible rfl
                          rotate_left
                          · simp only [Act.put, List.setIfInBounds_toArray, List.set_cons_zero, List.set_cons_succ, i64_w, i32_w]
                            rfl
                          refine one_ (i := 12) (N := some 27) #[true, true, true, true, true, true, true, true, true, true, true, true, true, false, false] rfl rfl (one_of HT_.out (by kernel_rfl)) (by decide) (fun K hK => ?_)
                          refine goes_ Try.func26 (by kernel_rfl) rfl #[.agg #[.slice A137_0 ((rd_T33 x3_1 (ji5)).f0).length c137_0, .int .i64 ((rd_T33 x3_1 (ji5)).f1), .int .i64 ((rd_T33 x3_1 (ji5)).f2), .bool ((rd_T33 x3_1 (ji5)).f3), .int .i64 ((rd_T33 x3_1 (ji5)).f4)], .agg #[.slice A138_0 ((rd_T33 l0 x4_1).f0).length c138_0, .int .i64 ((rd_T33 l0 x4_1).f1), .int .i64 ((rd_T33 l0 x4_1).f2), .bool ((rd_T33 l0 x4_1).f3), .int .i64 ((rd_T33 l0 x4_1).f4)]] (by rfl) rfl rfl (by (try simp only [List.map_toArray, List.map_cons, List.map_nil]); first | done | (simp only [hji5]; rfl) | rfl | (simp only [List.length_drop, List.length_take]; rfl)) ?_
                          with_reducible refine (paronymref29_Compare.calls k2 _ _ ((rd_T33 x3_1 (ji5)).f0) ((rd_T33 x3_1 (ji5)).f1) ((rd_T33 x3_1 (ji5)).f2) ((rd_T33 x3_1 (ji5)).f3) ((rd_T33 x3_1 (ji5)).f4) _ _ ((rd_T33 l0 x4_1).f0) ((rd_T33 l0 x4_1).f1) ((rd_T33 l0 x4_1).f2) ((rd_T33 l0 x4_1).f3) ((rd_T33 l0 x4_1).f4) t139 _ ?side1 ?side2 ?side3 ?side4 A10.out).mono ?_
                          (case side1 => repeat (first | exact (by repeat (first | (with_reducible exact HR137_0.out) | (with_reducible refine Kd.C_alloc ?_ _) | (with_reducible refine Kd.C_drewN ?_ _) | (with_reducible refine Kd.C_drew ?_) | exact HR137_0.out)) | (with_reducible refine Kd.C_alloc ?_ _) | (with_reducible refine Kd.C_drewN ?_ _) | (with_reducible refine Kd.C_drew ?_)))
                          (case side2 => exact HC137_0.out)
                          (case side3 => repeat (first | exact (by repeat (first | (with_reducible exact HR138_0.out) | (with_reducible refine Kd.C_alloc ?_ _) | (with_reducible refine Kd.C_drewN ?_ _) | (with_reducible refine Kd.C_drew ?_) | exact HR138_0.out)) | (with_reducible refine Kd.C_alloc ?_ _) | (with_reducible refine Kd.C_drewN ?_ _) | (with_reducible refine Kd.C_drew ?_)))
                          (case side4 => exact HC138_0.out)
                          rintro e w17 ⟨rfl, hb⟩
                          have HS0_ := (hb.cell (World.block_lt_of_cell? _ _ (hHeld.1))).trans (hHeld.1)
                          have HS1_ := (hb.cell (World.block_lt_of_cell? _ _ (hHeld.2.1))).trans (hHeld.2.1)
                          have HS2_ := (hb.cell (World.block_lt_of_cell? _ _ (hHeld.2.2.1))).trans (hHeld.2.2.1)
                          have HS3_ := (hb.cell (World.block_lt_of_cell? _ _ (hHeld.2.2.2.1))).trans (hHeld.2.2.2.1)
                          have HS4_ := (hb.cell (World.block_lt_of_cell? _ _ (hHeld.2.2.2.2.1))).trans (hHeld.2.2.2.2.1)
                          have HS5_ := (hb.cell (World.block_lt_of_cell? _ _ (hHeld.2.2.2.2.2.1))).trans (hHeld.2.2.2.2.2.1)
                          have HS6_ := (hb.cell (World.block_lt_of_cell? _ _ (hHeld.2.2.2.2.2.2.1))).trans (hHeld.2.2.2.2.2.2.1)
                          have HS7_ := (hb.cell (World.block_lt_of_cell? _ _ (hHeld.2.2.2.2.2.2.2.1))).trans (hHeld.2.2.2.2.2.2.2.1)
                          have HS8_ := (hb.cell (World.block_lt_of_cell? _ _ (hHeld.2.2.2.2.2.2.2.2.1))).trans (hHeld.2.2.2.2.2.2.2.2.1)
                          have HS9_ := (hb.cell (World.block_lt_of_cell? _ _ (hHeld.2.2.2.2.2.2.2.2.2))).trans (hHeld.2.2.2.2.2.2.2.2.2)
                          refine ⟨_, rfl, ?_⟩
                          have n0_ := Aside0.mk (Kd.V_below (by (with_reducible repeat (first | apply Kd.V_alloc | apply Kd.V_drewN | apply Kd.V_drew)); exact HO_0.out) hb)
                          have n1_ := Aside0.mk (Kd.N_below (by (with_reducible repeat (first | apply Kd.N_alloc | apply Kd.N_drewN | apply Kd.N_drew)); exact HO_3.out) hb)
                          have n2_ := Aside0.mk (Kd.V_below (by (with_reducible repeat (first | apply Kd.V_alloc | apply Kd.V_drewN | apply Kd.V_drew)); exact HL137_0.out) hb)
                          have n3_ := Aside0.mk (Kd.V_below (by (with_reducible repeat (first | apply Kd.V_alloc | apply Kd.V_drewN | apply Kd.V_drew)); exact HL138_0.out) hb)
                          have n4_ := Aside0.mk (Kd.C_below (by repeat (first | (with_reducible exact HR137_0.out) | (with_reducible refine Kd.C_alloc ?_ _) | (with_reducible refine Kd.C_drewN ?_ _) | (with_reducible refine Kd.C_drew ?_) | exact HR137_0.out)) hb)
                          have n5_ := Aside0.mk (Kd.C_below (by repeat (first | (with_reducible exact HR138_0.out) | (with_reducible refine Kd.C_alloc ?_ _) | (with_reducible refine Kd.C_drewN ?_ _) | (with_reducible refine Kd.C_drew ?_) | exact HR138_0.out)) hb)
                          have n6_ := Aside0.mk (below_step (by repeat (first | (with_reducible first | exact HB.out | apply below_alloc | apply pw_below_drewN | apply below_drew1) | exact HB.out)) hb)
                          clear HO_0
                          clear HO_3
                          clear HL137_0
                          clear HL138_0
                          clear HR137_0
                          clear HR138_0
                          clear HB
                          have HO_0 := n0_
                          have HO_3 := n1_
                          have HL137_0 := n2_
                          have HL138_0 := n3_
                          have HR137_0 := n4_
                          have HR138_0 := n5_
                          have HB := n6_
                          clear n0_ n1_ n2_ n3_ n4_ n5_ n6_
                          (try clear hb)
                          (try clear hb2)
                          (try clear hk)
                          (try clear hi)
                          refine hK.out _ _ ⟨HS0_, HS1_, HS2_, HS3_, HS4_, HS5_, HS6_, HS7_, HS8_, HS9_⟩ (fun hHeld => ?_)
                          clear hK K
                          refine norm_ (a' := ?_) ?_ ?_
                          rotate_left
                          · show Act.put _ (some 27) _ = _
                            simp only [Act.put, List.setIfInBounds_toArray, List.set_cons_zero, List.set_cons_succ, i64_w, i32_w]
                            rfl
                          refine pure_ (i := 13) (N := some 28) (v := ?_) (a' := ?_) #[true, true, true, true, true, true, true, true, true, true, true, true, true, true, false] rfl rfl (any_of HT_.out (by kernel_rfl)) (fun _ _ _ h => h) (Or.inl ⟨by rfl, ?_⟩) ?_ ?_
                          rotate_left
                          · intro w'
                            go_simp
                            with_reducible rfl
                          rotate_left
                          · simp only [Act.put, List.setIfInBounds_toArray, List.set_cons_zero, List.set_cons_succ, i64_w, i32_w]
                            rfl
                          refine pure_ (i := 14) (N := some 29) (v := ?_) (a' := ?_) #[true, true, true, true, true, true, true, true, true, true, true, true, true, true, true] rfl rfl (any_of HT_.out (by kernel_rfl)) (fun _ _ _ h => h) (Or.inl ⟨by rfl, ?_⟩) ?_ ?_
                          rotate_left
                          · intro w'
                            go_simp
                            with_reducible rfl
                          rotate_left
                          · simp only [Act.put, List.setIfInBounds_toArray, List.set_cons_zero, List.set_cons_succ, i64_w, i32_w]
                            rfl
                          refine done_ (done_of HT_.out (by kernel_rfl)) ?_
                          try go_wp2
                          have n0_ := Aside0.mk (Kd.V_drew HO_0.out)
                          have n1_ := Aside0.mk (Kd.N_drew HO_3.out)
                          have n2_ := Aside0.mk (Kd.V_drew HL137_0.out)
                          have n3_ := Aside0.mk (Kd.V_drew HL138_0.out)
                          have n4_ := Aside0.mk (Kd.C_drew HR137_0.out)
                          have n5_ := Aside0.mk (Kd.C_drew HR138_0.out)
                          have n6_ := Aside0.mk (below_drew1 HB.out)
                          clear HO_0
                          clear HO_3
                          clear HL137_0
                          clear HL138_0
                          clear HR137_0
                          clear HR138_0
                          clear HB
                          have HO_0 := n0_
                          have HO_3 := n1_
                          have HL137_0 := n2_
                          have HL138_0 := n3_
                          have HR137_0 := n4_
                          have HR138_0 := n5_
                          have HB := n6_
                          clear n0_ n1_ n2_ n3_ n4_ n5_ n6_
                          have p140 : 0 ≤ ((ji5) : Int) := of_decide_eq_true (by first | (with_reducible assumption) | assumption)
                          have q140 : (ji5) < (x3_1.length : Int) := of_decide_eq_true (by first | (with_reducible assumption) | assumption)
                          obtain ⟨ad140, A140_0, c140_0, e140, hx140_0, hx140_1, hx140_2, hx140_3, hx140_4, hl140_0, hi140_0⟩ := at_T33 (Kd.N_reads' HO_3.out).2.2 (ji5) p140 q140
                          obtain rfl : ad137 = ad140 := (by injection e140)
                          obtain ⟨ce140, hce140, hMe140, hcc140⟩ := Kd.N_get HO_3.out z33 (ji5) p140 (by first | exact q140 | exact of_decide_eq_true (by first | (with_reducible assumption) | assumption) | (have e_ := (Kd.N_reads' HO_3.out).1; omega))
                          obtain ⟨ua140_0, uc140_0, rfl, ul140_0, ge140_0⟩ := k33_openF hMe140
                          have hv140_0 := hcc140 0 _ rfl
                          rw [Nat.add_zero] at hv140_0
                          replace hv140_0 := Option.some.inj (hv140_0.symm.trans hx140_0)
                          injection hv140_0 with hva_ hvn_ hvc_
                          rw [hva_] at ge140_0
                          rw [hvc_] at ul140_0
                          have HL140_0 := Aside0.mk (show Kd.V (Kd.int .i64) 3 _ w.heap.size _ _ ((rd_T33 x3_1 (ji5)).f0) from Kd.V_mk ul140_0 ge140_0)
                          clear hva_ hvn_ hvc_ ge140_0 ul140_0
                          clear hcc140 hce140
                          have HR140_0 := Aside0.mk hi140_0
                          have HC140_0 := Aside0.mk hl140_0
                          clear hi140_0 hl140_0
                          replace p140 := eq_true p140
                          replace q140 := eq_true q140
                          have p141 : 0 ≤ (x4_1 : Int) := of_decide_eq_true (by first | (with_reducible assumption) | assumption)
                          have q141 : x4_1 < (l0.length : Int) := of_decide_eq_true (by first | (with_reducible assumption) | assumption)
                          obtain ⟨ad141, A141_0, c141_0, e141, hx141_0, hx141_1, hx141_2, hx141_3, hx141_4, hl141_0, hi141_0⟩ := at_T33 (Kd.V_reads' HO_0.out).2.2 x4_1 p141 q141
                          obtain rfl : ad138 = ad141 := (by injection e141)
                          obtain ⟨ce141, hce141, hMe141, hcc141⟩ := Kd.V_get HO_0.out z33 x4_1 p141 (by first | exact q141 | exact of_decide_eq_true (by first | (with_reducible assumption) | assumption) | (have e_ := (Kd.V_reads' HO_0.out).1; omega))
                          obtain ⟨ua141_0, uc141_0, rfl, ul141_0, ge141_0⟩ := k33_openF hMe141
                          have hv141_0 := hcc141 0 _ rfl
                          rw [Nat.add_zero] at hv141_0
                          replace hv141_0 := Option.some.inj (hv141_0.symm.trans hx141_0)
                          injection hv141_0 with hva_ hvn_ hvc_
                          rw [hva_] at ge141_0
                          rw [hvc_] at ul141_0
                          have HL141_0 := Aside0.mk (show Kd.V (Kd.int .i64) 3 _ w.heap.size _ _ ((rd_T33 l0 x4_1).f0) from Kd.V_mk ul141_0 ge141_0)
                          clear hva_ hvn_ hvc_ ge141_0 ul141_0
                          clear hcc141 hce141
                          have HR141_0 := Aside0.mk hi141_0
                          have HC141_0 := Aside0.mk hl141_0
                          clear hi141_0 hl141_0
                          replace p141 := eq_true p141
                          replace q141 := eq_true q141
                          refine start_ (n := 15) (S := fun w' => w'.cell? (ad137.add (((ji5)).toNat * 5)) = some (.slice A140_0 ((rd_T33 x3_1 (ji5)).f0).length c140_0) ∧ w'.cell? ⟨(ad137.add (((ji5)).toNat * 5)).block, (ad137.add (((ji5)).toNat * 5)).off + 1, none⟩ = some (.int .i64 ((rd_T33 x3_1 (ji5)).f1)) ∧ w'.cell? ⟨(ad137.add (((ji5)).toNat * 5)).block, (ad137.add (((ji5)).toNat * 5)).off + 2, none⟩ = some (.int .i64 ((rd_T33 x3_1 (ji5)).f2)) ∧ w'.cell? ⟨(ad137.add (((ji5)).toNat * 5)).block, (ad137.add (((ji5)).toNat * 5)).off + 3, none⟩ = some (.bool ((rd_T33 x3_1 (ji5)).f3)) ∧ w'.cell? ⟨(ad137.add (((ji5)).toNat * 5)).block, (ad137.add (((ji5)).toNat * 5)).off + 4, none⟩ = some (.int .i64 ((rd_T33 x3_1 (ji5)).f4)) ∧ w'.cell? (ad138.add ((x4_1).toNat * 5)) = some (.slice A141_0 ((rd_T33 l0 x4_1).f0).length c141_0) ∧ w'.cell? ⟨(ad138.add ((x4_1).toNat * 5)).block, (ad138.add ((x4_1).toNat * 5)).off + 1, none⟩ = some (.int .i64 ((rd_T33 l0 x4_1).f1)) ∧ w'.cell? ⟨(ad138.add ((x4_1).toNat * 5)).block, (ad138.add ((x4_1).toNat * 5)).off + 2, none⟩ = some (.int .i64 ((rd_T33 l0 x4_1).f2)) ∧ w'.cell? ⟨(ad138.add ((x4_1).toNat * 5)).block, (ad138.add ((x4_1).toNat * 5)).off + 3, none⟩ = some (.bool ((rd_T33 l0 x4_1).f3)) ∧ w'.cell? ⟨(ad138.add ((x4_1).toNat * 5)).block, (ad138.add ((x4_1).toNat * 5)).off + 4, none⟩ = some (.int .i64 ((rd_T33 l0 x4_1).f4))) (ds := []) #[false, false, false, false, false, false, false, false, false, false, false, false, false, false, false] (by kernel_rfl) rfl rfl ⟨hx140_0, hx140_1, hx140_2, hx140_3, hx140_4, hx141_0, hx141_1, hx141_2, hx141_3, hx141_4⟩ (fun hHeld => ?_); refine with_tabW paronymref29_Sort.tab8 paronymref29_Sort.bits8 (fun HT_ HW_ => ?_)
                          generalize w17.drew = w18 at HO_0 HO_3 HL137_0 HL138_0 HR137_0 HR138_0 HB HL140_0 HL141_0 HR140_0 HR141_0 hx140_0 hx140_1 hx140_2 hx140_3 hx140_4 hx141_0 hx141_1 hx141_2 hx141_3 hx141_4 hHeld ⊢
                          refine pure_ (i := 0) (N := some 32) (v := ?_) (a' := ?_) #[true, false, false, false, false, false, false, false, false, false, false, false, false, false, false] rfl rfl (any_of HT_.out (by kernel_rfl)) (fun _ _ _ h => h) (Or.inl ⟨by rfl, ?_⟩) ?_ ?_
                          rotate_left
                          · intro w'
                            go_simp
                            with_reducible rfl
                          rotate_left
                          · simp only [Act.put, List.setIfInBounds_toArray, List.set_cons_zero, List.set_cons_succ, i64_w, i32_w]
                            rfl
                          refine pure_ (i := 1) (N := some 33) (v := ?_) (a' := ?_) #[true, true, false, false, false, false, false, false, false, false, false, false, false, false, false] rfl rfl (any_of HT_.out (by kernel_rfl)) (fun _ _ _ h => h) (Or.inl ⟨by rfl, ?_⟩) ?_ ?_
                          rotate_left
                          · intro w'
                            go_simp
                            with_reducible rfl
                          rotate_left
                          · simp only [Act.put, List.setIfInBounds_toArray, List.set_cons_zero, List.set_cons_succ, i64_w, i32_w]
                            rfl
                          refine pure_ (i := 2) (N := some 34) (v := ?_) (a' := ?_) #[true, true, true, false, false, false, false, false, false, false, false, false, false, false, false] rfl rfl (any_of HT_.out (by kernel_rfl)) (fun _ _ _ h => h) (Or.inl ⟨by rfl, ?_⟩) ?_ ?_
                          rotate_left
                          · intro w'
                            go_simp
                            with_reducible rfl
                          rotate_left
                          · simp only [Act.put, List.setIfInBounds_toArray, List.set_cons_zero, List.set_cons_succ, i64_w, i32_w]
                            rfl
                          refine pure_ (i := 3) (N := some 35) (v := ?_) (a' := ?_) #[true, true, true, true, false, false, false, false, false, false, false, false, false, false, false] rfl rfl (any_of HT_.out (by kernel_rfl)) (fun _ _ _ h => h) (Or.inl ⟨by rfl, ?_⟩) ?_ ?_
                          rotate_left
                          · intro w'
                            go_simp
                            with_reducible rfl
                          rotate_left
                          · simp only [Act.put, List.setIfInBounds_toArray, List.set_cons_zero, List.set_cons_succ, i64_w, i32_w]
                            rfl
                          refine pure_ (i := 4) (N := some 36) (v := ?_) (a' := ?_) #[true, true, true, true, true, false, false, false, false, false, false, false, false, false, false] rfl rfl (any_of HT_.out (by kernel_rfl)) (fun _ _ _ h => h) (Or.inl ⟨by rfl, ?_⟩) ?_ ?_
                          rotate_left
                          · intro w'
                            go_simp
                            with_reducible rfl
                          rotate_left
                          · simp only [Act.put, List.setIfInBounds_toArray, List.set_cons_zero, List.set_cons_succ, i64_w, i32_w]
                            rfl
                          refine pure_ (i := 5) (N := some 37) (v := ?_) (a' := ?_) #[true, true, true, true, true, true, false, false, false, false, false, false, false, false, false] rfl rfl (any_of HT_.out (by kernel_rfl)) (fun _ _ _ h => h) (Or.inl ⟨by rfl, ?_⟩) ?_ ?_
                          rotate_left
                          · intro w'
                            go_simp
                            with_reducible rfl
                          rotate_left
                          · simp only [Act.put, List.setIfInBounds_toArray, List.set_cons_zero, List.set_cons_succ, i64_w, i32_w]
                            rfl
                          refine pure_ (i := 6) (N := some 38) (v := ?_) (a' := ?_) #[true, true, true, true, true, true, true, false, false, false, false, false, false, false, false] rfl rfl (any_of HT_.out (by kernel_rfl)) (fun _ _ _ h => h) (Or.inl ⟨by rfl, ?_⟩) ?_ ?_
                          rotate_left
                          · intro w'
                            go_simp
                            with_reducible rfl
                          rotate_left
                          · simp only [Act.put, List.setIfInBounds_toArray, List.set_cons_zero, List.set_cons_succ, i64_w, i32_w]
                            rfl
                          refine pure_ (i := 8) (N := some 40) (v := ?_) (a' := ?_) #[true, true, true, true, true, true, true, false, true, false, false, false, false, false, false] rfl rfl (any_of HT_.out (by kernel_rfl)) (fun _ _ _ h => h) (Or.inl ⟨by rfl, ?_⟩) ?_ ?_
                          rotate_left
                          · intro w'
                            go_simp
                            with_reducible rfl
                          rotate_left
                          · simp only [Act.put, List.setIfInBounds_toArray, List.set_cons_zero, List.set_cons_succ, i64_w, i32_w]
                            rfl
                          refine pure_ (i := 9) (N := some 41) (v := ?_) (a' := ?_) #[true, true, true, true, true, true, true, false, true, true, false, false, false, false, false] rfl rfl (any_of HT_.out (by kernel_rfl)) (fun _ _ _ h => h) (Or.inl ⟨by rfl, ?_⟩) ?_ ?_
                          rotate_left
                          · intro w'
                            go_simp
                            with_reducible rfl
                          rotate_left
                          · simp only [Act.put, List.setIfInBounds_toArray, List.set_cons_zero, List.set_cons_succ, i64_w, i32_w]
                            rfl
                          refine pure_ (i := 10) (N := some 42) (v := ?_) (a' := ?_) #[true, true, true, true, true, true, true, false, true, true, true, false, false, false, false] rfl rfl (any_of HT_.out (by kernel_rfl)) (fun _ _ _ h => h) (Or.inl ⟨by rfl, ?_⟩) ?_ ?_
                          rotate_left
                          · intro w'
                            go_simp
                            with_reducible rfl
                          rotate_left
                          · simp only [Act.put, List.setIfInBounds_toArray, List.set_cons_zero, List.set_cons_succ, i64_w, i32_w]
                            rfl
                          refine take_ (i := 7) (N := some 39) (v := ?_) (a' := ?_) #[true, true, true, true, true, true, true, true, true, true, true, false, false, false, false] rfl rfl (take_ofW HT_.out HW_.out (by kernel_rfl)) (fun _ _ _ h => h) (Or.inl ⟨by rfl, ?_⟩) hHeld ?_ ?_
                          rotate_left
                          · rintro w' ⟨s0, s1, s2, s3, s4, s5, s6, s7, s8, s9⟩
                            go_simp
                            with_reducible rfl
                          rotate_left
                          · simp only [Act.put, List.setIfInBounds_toArray, List.set_cons_zero, List.set_cons_succ, i64_w, i32_w]
                            rfl
                          refine take_ (i := 11) (N := some 43) (v := ?_) (a' := ?_) #[true, true, true, true, true, true, true, true, true, true, true, true, false, false, false] rfl rfl (take_ofW HT_.out HW_.out (by kernel_rfl)) (fun _ _ _ h => h) (Or.inl ⟨by rfl, ?_⟩) hHeld ?_ ?_
                          rotate_left
                          · rintro w' ⟨s0, s1, s2, s3, s4, s5, s6, s7, s8, s9⟩
                            go_simp
                            with_reducible rfl
                          rotate_left
                          · simp only [Act.put, List.setIfInBounds_toArray, List.set_cons_zero, List.set_cons_succ, i64_w, i32_w]
                            rfl
                          refine one_ (i := 12) (N := some 44) #[true, true, true, true, true, true, true, true, true, true, true, true, true, false, false] rfl rfl (one_of HT_.out (by kernel_rfl)) (by decide) (fun K hK => ?_)
                          refine goes_ Try.func26 (by kernel_rfl) rfl #[.agg #[.slice A140_0 ((rd_T33 x3_1 (ji5)).f0).length c140_0, .int .i64 ((rd_T33 x3_1 (ji5)).f1), .int .i64 ((rd_T33 x3_1 (ji5)).f2), .bool ((rd_T33 x3_1 (ji5)).f3), .int .i64 ((rd_T33 x3_1 (ji5)).f4)], .agg #[.slice A141_0 ((rd_T33 l0 x4_1).f0).length c141_0, .int .i64 ((rd_T33 l0 x4_1).f1), .int .i64 ((rd_T33 l0 x4_1).f2), .bool ((rd_T33 l0 x4_1).f3), .int .i64 ((rd_T33 l0 x4_1).f4)]] (by rfl) rfl rfl (by (try simp only [List.map_toArray, List.map_cons, List.map_nil]); first | done | (simp only [hji5]; rfl) | rfl | (simp only [List.length_drop, List.length_take]; rfl)) ?_
                          with_reducible refine (paronymref29_Compare.calls k2 _ _ ((rd_T33 x3_1 (ji5)).f0) ((rd_T33 x3_1 (ji5)).f1) ((rd_T33 x3_1 (ji5)).f2) ((rd_T33 x3_1 (ji5)).f3) ((rd_T33 x3_1 (ji5)).f4) _ _ ((rd_T33 l0 x4_1).f0) ((rd_T33 l0 x4_1).f1) ((rd_T33 l0 x4_1).f2) ((rd_T33 l0 x4_1).f3) ((rd_T33 l0 x4_1).f4) t142 _ ?side1 ?side2 ?side3 ?side4 A14.out).mono ?_
                          (case side1 => repeat (first | exact (by repeat (first | (with_reducible exact HR140_0.out) | (with_reducible refine Kd.C_alloc ?_ _) | (with_reducible refine Kd.C_drewN ?_ _) | (with_reducible refine Kd.C_drew ?_) | exact HR140_0.out)) | (with_reducible refine Kd.C_alloc ?_ _) | (with_reducible refine Kd.C_drewN ?_ _) | (with_reducible refine Kd.C_drew ?_)))
                          (case side2 => exact HC140_0.out)
                          (case side3 => repeat (first | exact (by repeat (first | (with_reducible exact HR141_0.out) | (with_reducible refine Kd.C_alloc ?_ _) | (with_reducible refine Kd.C_drewN ?_ _) | (with_reducible refine Kd.C_drew ?_) | exact HR141_0.out)) | (with_reducible refine Kd.C_alloc ?_ _) | (with_reducible refine Kd.C_drewN ?_ _) | (with_reducible refine Kd.C_drew ?_)))
                          (case side4 => exact HC141_0.out)
                          rintro e w19 ⟨rfl, hb⟩
                          have HS0_ := (hb.cell (World.block_lt_of_cell? _ _ (hHeld.1))).trans (hHeld.1)
                          have HS1_ := (hb.cell (World.block_lt_of_cell? _ _ (hHeld.2.1))).trans (hHeld.2.1)
                          have HS2_ := (hb.cell (World.block_lt_of_cell? _ _ (hHeld.2.2.1))).trans (hHeld.2.2.1)
                          have HS3_ := (hb.cell (World.block_lt_of_cell? _ _ (hHeld.2.2.2.1))).trans (hHeld.2.2.2.1)
                          have HS4_ := (hb.cell (World.block_lt_of_cell? _ _ (hHeld.2.2.2.2.1))).trans (hHeld.2.2.2.2.1)
                          have HS5_ := (hb.cell (World.block_lt_of_cell? _ _ (hHeld.2.2.2.2.2.1))).trans (hHeld.2.2.2.2.2.1)
                          have HS6_ := (hb.cell (World.block_lt_of_cell? _ _ (hHeld.2.2.2.2.2.2.1))).trans (hHeld.2.2.2.2.2.2.1)
                          have HS7_ := (hb.cell (World.block_lt_of_cell? _ _ (hHeld.2.2.2.2.2.2.2.1))).trans (hHeld.2.2.2.2.2.2.2.1)
                          have HS8_ := (hb.cell (World.block_lt_of_cell? _ _ (hHeld.2.2.2.2.2.2.2.2.1))).trans (hHeld.2.2.2.2.2.2.2.2.1)
                          have HS9_ := (hb.cell (World.block_lt_of_cell? _ _ (hHeld.2.2.2.2.2.2.2.2.2))).trans (hHeld.2.2.2.2.2.2.2.2.2)
                          refine ⟨_, rfl, ?_⟩
                          have n0_ := Aside0.mk (Kd.V_below (by (with_reducible repeat (first | apply Kd.V_alloc | apply Kd.V_drewN | apply Kd.V_drew)); exact HO_0.out) hb)
                          have n1_ := Aside0.mk (Kd.N_below (by (with_reducible repeat (first | apply Kd.N_alloc | apply Kd.N_drewN | apply Kd.N_drew)); exact HO_3.out) hb)
                          have n2_ := Aside0.mk (Kd.V_below (by (with_reducible repeat (first | apply Kd.V_alloc | apply Kd.V_drewN | apply Kd.V_drew)); exact HL137_0.out) hb)
                          have n3_ := Aside0.mk (Kd.V_below (by (with_reducible repeat (first | apply Kd.V_alloc | apply Kd.V_drewN | apply Kd.V_drew)); exact HL138_0.out) hb)
                          have n4_ := Aside0.mk (Kd.V_below (by (with_reducible repeat (first | apply Kd.V_alloc | apply Kd.V_drewN | apply Kd.V_drew)); exact HL140_0.out) hb)
                          have n5_ := Aside0.mk (Kd.V_below (by (with_reducible repeat (first | apply Kd.V_alloc | apply Kd.V_drewN | apply Kd.V_drew)); exact HL141_0.out) hb)
                          have n6_ := Aside0.mk (Kd.C_below (by repeat (first | (with_reducible exact HR137_0.out) | (with_reducible refine Kd.C_alloc ?_ _) | (with_reducible refine Kd.C_drewN ?_ _) | (with_reducible refine Kd.C_drew ?_) | exact HR137_0.out)) hb)
                          have n7_ := Aside0.mk (Kd.C_below (by repeat (first | (with_reducible exact HR138_0.out) | (with_reducible refine Kd.C_alloc ?_ _) | (with_reducible refine Kd.C_drewN ?_ _) | (with_reducible refine Kd.C_drew ?_) | exact HR138_0.out)) hb)
                          have n8_ := Aside0.mk (Kd.C_below (by repeat (first | (with_reducible exact HR140_0.out) | (with_reducible refine Kd.C_alloc ?_ _) | (with_reducible refine Kd.C_drewN ?_ _) | (with_reducible refine Kd.C_drew ?_) | exact HR140_0.out)) hb)
                          have n9_ := Aside0.mk (Kd.C_below (by repeat (first | (with_reducible exact HR141_0.out) | (with_reducible refine Kd.C_alloc ?_ _) | (with_reducible refine Kd.C_drewN ?_ _) | (with_reducible refine Kd.C_drew ?_) | exact HR141_0.out)) hb)
                          have n10_ := Aside0.mk (below_step (by repeat (first | (with_reducible first | exact HB.out | apply below_alloc | apply pw_below_drewN | apply below_drew1) | exact HB.out)) hb)
                          clear HO_0
                          clear HO_3
                          clear HL137_0
                          clear HL138_0
                          clear HL140_0
                          clear HL141_0
                          clear HR137_0
                          clear HR138_0
                          clear HR140_0
                          clear HR141_0
                          clear HB
                          have HO_0 := n0_
                          have HO_3 := n1_
                          have HL137_0 := n2_
                          have HL138_0 := n3_
                          have HL140_0 := n4_
                          have HL141_0 := n5_
                          have HR137_0 := n6_
                          have HR138_0 := n7_
                          have HR140_0 := n8_
                          have HR141_0 := n9_
                          have HB := n10_
                          clear n0_ n1_ n2_ n3_ n4_ n5_ n6_ n7_ n8_ n9_ n10_
                          (try clear hb)
                          (try clear hb2)
                          (try clear hk)
                          (try clear hi)
                          refine hK.out _ _ ⟨HS0_, HS1_, HS2_, HS3_, HS4_, HS5_, HS6_, HS7_, HS8_, HS9_⟩ (fun hHeld => ?_)
                          clear hK K
                          refine norm_ (a' := ?_) ?_ ?_
                          rotate_left
                          · show Act.put _ (some 44) _ = _
                            simp only [Act.put, List.setIfInBounds_toArray, List.set_cons_zero, List.set_cons_succ, i64_w, i32_w]
                            rfl
                          refine pure_ (i := 13) (N := some 45) (v := ?_) (a' := ?_) #[true, true, true, true, true, true, true, true, true, true, true, true, true, true, false] rfl rfl (any_of HT_.out (by kernel_rfl)) (fun _ _ _ h => h) (Or.inl ⟨by rfl, ?_⟩) ?_ ?_
                          rotate_left
                          · intro w'
                            go_simp
                            with_reducible rfl
                          rotate_left
                          · simp only [Act.put, List.setIfInBounds_toArray, List.set_cons_zero, List.set_cons_succ, i64_w, i32_w]
                            rfl
                          refine pure_ (i := 14) (N := some 46) (v := ?_) (a' := ?_) #[true, true, true, true, true, true, true, true, true, true, true, true, true, true, true] rfl rfl (any_of HT_.out (by kernel_rfl)) (fun _ _ _ h => h) (Or.inl ⟨by rfl, ?_⟩) ?_ ?_
                          rotate_left
                          · intro w'
                            go_simp
                            with_reducible rfl
                          rotate_left
                          · simp only [Act.put, List.setIfInBounds_toArray, List.set_cons_zero, List.set_cons_succ, i64_w, i32_w]
                            rfl
                          refine done_ (done_of HT_.out (by kernel_rfl)) ?_
                          try go_wp2
                          go_roundg k2
                          case measure => have := HK1.out; have := HK2.out; omega
                          case rel => exact ⟨(x3_1), (wrap64 (x4_1 + 1)), (by first | rfl | (simp; done) | (simp [*]; done)), H', ⟨by have := HK1.out; have := HK2.out; omega⟩, ⟨by (with_reducible repeat (first | apply Kd.V_alloc | apply Kd.V_drewN | apply Kd.V_drew)); exact HO_0.out⟩, ⟨by (with_reducible repeat (first | apply Kd.N_alloc | apply Kd.N_drewN | apply Kd.N_drew)); exact HO_3.out⟩, ⟨by repeat (first | (with_reducible first | exact HB.out | apply below_alloc | apply pw_below_drewN | apply below_drew1) | exact HB.out)⟩⟩
                        · rw [if_neg c15] at H
                          have c15b0 : (t142 == 0) = false := beq_eq_false_iff_ne.mpr c15
                          have c15b1 : (t142 != 0) = true := bne_iff_ne.mpr c15
                          by_cases c20 : 0 ≤ x5_2
                          · rw [if_pos c20] at H
                            have c20b0 := eq_true c20
                            have c20b1 : decide (0 ≤ x5_2) = true := decide_eq_true c20
                            clear c20
                            by_cases c21 : x5_2 ≤ (x3_1.length : Int)
                            · rw [if_pos c21] at H
                              have c21b0 := eq_true c21
                              have c21b1 : decide (x5_2 ≤ (x3_1.length : Int)) = true := decide_eq_true c21
                              clear c21
                              obtain ⟨y143, hy143⟩ : ∃ y_ : List (S33), y_ = (x3_1.take (x5_2 : Int).toNat) := ⟨_, rfl⟩
                              replace H : (if ([] : List (S33)).length + y143.length < 2513169434916 then ((some (([] : List (S33)) ++ y143 : List (S33))).bind fun y148 => (if y148.length < 2513169434916 then ((some (y148 ++ [(⟨(rd_T33 l0 x4_1).f0, (rd_T33 l0 x4_1).f1, (rd_T33 l0 x4_1).f2, (rd_T33 l0 x4_1).f3, (rd_T33 l0 x4_1).f4⟩ : S33)] : List (S33))).bind fun y152 => ((some (x3_1.drop (x5_2 : Int).toNat : List (S33))).bind fun y155 => (if y152.length + y155.length < 2513169434916 then (paronymref29_Sort.l0 k2 l0 (y152 ++ y155) (wrap64 (x4_1 + 1))) else (none)))) else (none))) else (none)) = some r := by first | (rw [hy143]; with_reducible exact H) | (have H2_ := (Option.bind_some _ _).symm.trans H; rw [hy143]; with_reducible exact H2_) | (have H2_ := (Option.bind_some _ _).symm.trans H; with_reducible exact H2_) | with_reducible exact H | (rw [hy143]; exact H) | exact H
                              have Ny143 := Aside0.mk hy143
                              clear hy143
                              by_cases c22 : ([] : List (S33)).length + y143.length < 2513169434916
                              · rw [if_pos c22] at H
                                have LMc22 := Aside0.mk c22
                                clear c22
                                obtain ⟨y148, hy148⟩ : ∃ y_ : List (S33), y_ = (([] : List (S33)) ++ y143) := ⟨_, rfl⟩
                                replace H : (if y148.length < 2513169434916 then ((some (y148 ++ [(⟨(rd_T33 l0 x4_1).f0, (rd_T33 l0 x4_1).f1, (rd_T33 l0 x4_1).f2, (rd_T33 l0 x4_1).f3, (rd_T33 l0 x4_1).f4⟩ : S33)] : List (S33))).bind fun y152 => ((some (x3_1.drop (x5_2 : Int).toNat : List (S33))).bind fun y155 => (if y152.length + y155.length < 2513169434916 then (paronymref29_Sort.l0 k2 l0 (y152 ++ y155) (wrap64 (x4_1 + 1))) else (none)))) else (none)) = some r := by first | (rw [hy148]; with_reducible exact H) | (have H2_ := (Option.bind_some _ _).symm.trans H; rw [hy148]; with_reducible exact H2_) | (have H2_ := (Option.bind_some _ _).symm.trans H; with_reducible exact H2_) | with_reducible exact H | (rw [hy148]; exact H) | exact H
                                have Ny148 := Aside0.mk hy148
                                clear hy148
                                by_cases c23 : y148.length < 2513169434916
                                · rw [if_pos c23] at H
                                  have LMc23 := Aside0.mk c23
                                  clear c23
                                  obtain ⟨y152, hy152⟩ : ∃ y_ : List (S33), y_ = (y148 ++ [(⟨(rd_T33 l0 x4_1).f0, (rd_T33 l0 x4_1).f1, (rd_T33 l0 x4_1).f2, (rd_T33 l0 x4_1).f3, (rd_T33 l0 x4_1).f4⟩ : S33)]) := ⟨_, rfl⟩
                                  replace H : ((some (x3_1.drop (x5_2 : Int).toNat : List (S33))).bind fun y155 => (if y152.length + y155.length < 2513169434916 then (paronymref29_Sort.l0 k2 l0 (y152 ++ y155) (wrap64 (x4_1 + 1))) else (none))) = some r := by first | (rw [hy152]; with_reducible exact H) | (have H2_ := (Option.bind_some _ _).symm.trans H; rw [hy152]; with_reducible exact H2_) | (have H2_ := (Option.bind_some _ _).symm.trans H; with_reducible exact H2_) | with_reducible exact H | (rw [hy152]; exact H) | exact H
                                  have Ny152 := Aside0.mk hy152
                                  clear hy152
                                  have c24b0 := eq_true (of_decide_eq_true (by first | (with_reducible assumption) | assumption) : 0 ≤ x5_2)
                                  have c25b0 := eq_true (of_decide_eq_true (by first | (with_reducible assumption) | assumption) : x5_2 ≤ (x3_1.length : Int))
                                  obtain ⟨y155, hy155⟩ : ∃ y_ : List (S33), y_ = (x3_1.drop (x5_2 : Int).toNat) := ⟨_, rfl⟩
                                  replace H : (if y152.length + y155.length < 2513169434916 then (paronymref29_Sort.l0 k2 l0 (y152 ++ y155) (wrap64 (x4_1 + 1))) else (none)) = some r := by first | (rw [hy155]; with_reducible exact H) | (have H2_ := (Option.bind_some _ _).symm.trans H; rw [hy155]; with_reducible exact H2_) | (have H2_ := (Option.bind_some _ _).symm.trans H; with_reducible exact H2_) | with_reducible exact H | (rw [hy155]; exact H) | exact H
                                  have Ny155 := Aside0.mk hy155
                                  clear hy155
                                  by_cases c26 : y152.length + y155.length < 2513169434916
                                  · rw [if_pos c26] at H
                                    have LMc26 := Aside0.mk c26
                                    clear c26
                                    obtain ⟨y160, hy160⟩ : ∃ y_ : List (S33), y_ = (y152 ++ y155) := ⟨_, rfl⟩
                                    replace H : (paronymref29_Sort.l0 k2 l0 y160 (wrap64 (x4_1 + 1))) = some r := by first | (rw [hy160]; with_reducible exact H) | (have H2_ := (Option.bind_some _ _).symm.trans H; rw [hy160]; with_reducible exact H2_) | (have H2_ := (Option.bind_some _ _).symm.trans H; with_reducible exact H2_) | with_reducible exact H | (rw [hy160]; exact H) | exact H
                                    have Ny160 := Aside0.mk hy160
                                    clear hy160
                                    have H' := Aside0.mk H
                                    clear H
                                    try go_wp2
                                    have n0_ := Aside0.mk (Kd.V_drew HO_0.out)
                                    have n1_ := Aside0.mk (Kd.N_drew HO_3.out)
                                    have n2_ := Aside0.mk (below_drew1 HB.out)
                                    clear HO_0
                                    clear HO_3
                                    clear HB
                                    have HO_0 := n0_
                                    have HO_3 := n1_
                                    have HB := n2_
                                    clear n0_ n1_ n2_
                                    have p137 : 0 ≤ ((ji5) : Int) := of_decide_eq_true (by first | (with_reducible assumption) | assumption)
                                    have q137 : (ji5) < (x3_1.length : Int) := of_decide_eq_true (by first | (with_reducible assumption) | assumption)
                                    obtain ⟨ad137, A137_0, c137_0, e137, hx137_0, hx137_1, hx137_2, hx137_3, hx137_4, hl137_0, hi137_0⟩ := at_T33 (Kd.N_reads' HO_3.out).2.2 (ji5) p137 q137
                                    cases e137
                                    obtain ⟨ce137, hce137, hMe137, hcc137⟩ := Kd.N_get HO_3.out z33 (ji5) p137 (by first | exact q137 | exact of_decide_eq_true (by first | (with_reducible assumption) | assumption) | (have e_ := (Kd.N_reads' HO_3.out).1; omega))
                                    obtain ⟨ua137_0, uc137_0, rfl, ul137_0, ge137_0⟩ := k33_openF hMe137
                                    have hv137_0 := hcc137 0 _ rfl
                                    rw [Nat.add_zero] at hv137_0
                                    replace hv137_0 := Option.some.inj (hv137_0.symm.trans hx137_0)
                                    injection hv137_0 with hva_ hvn_ hvc_
                                    rw [hva_] at ge137_0
                                    rw [hvc_] at ul137_0
                                    have HL137_0 := Aside0.mk (show Kd.V (Kd.int .i64) 3 _ w.heap.size _ _ ((rd_T33 x3_1 (ji5)).f0) from Kd.V_mk ul137_0 ge137_0)
                                    clear hva_ hvn_ hvc_ ge137_0 ul137_0
                                    clear hcc137 hce137
                                    have HR137_0 := Aside0.mk hi137_0
                                    have HC137_0 := Aside0.mk hl137_0
                                    clear hi137_0 hl137_0
                                    replace p137 := eq_true p137
                                    replace q137 := eq_true q137
                                    have p138 : 0 ≤ (x4_1 : Int) := of_decide_eq_true (by first | (with_reducible assumption) | assumption)
                                    have q138 : x4_1 < (l0.length : Int) := of_decide_eq_true (by first | (with_reducible assumption) | assumption)
                                    obtain ⟨ad138, A138_0, c138_0, e138, hx138_0, hx138_1, hx138_2, hx138_3, hx138_4, hl138_0, hi138_0⟩ := at_T33 (Kd.V_reads' HO_0.out).2.2 x4_1 p138 q138
                                    cases e138
                                    obtain ⟨ce138, hce138, hMe138, hcc138⟩ := Kd.V_get HO_0.out z33 x4_1 p138 (by first | exact q138 | exact of_decide_eq_true (by first | (with_reducible assumption) | assumption) | (have e_ := (Kd.V_reads' HO_0.out).1; omega))
                                    obtain ⟨ua138_0, uc138_0, rfl, ul138_0, ge138_0⟩ := k33_openF hMe138
                                    have hv138_0 := hcc138 0 _ rfl
                                    rw [Nat.add_zero] at hv138_0
                                    replace hv138_0 := Option.some.inj (hv138_0.symm.trans hx138_0)
                                    injection hv138_0 with hva_ hvn_ hvc_
                                    rw [hva_] at ge138_0
                                    rw [hvc_] at ul138_0
                                    have HL138_0 := Aside0.mk (show Kd.V (Kd.int .i64) 3 _ w.heap.size _ _ ((rd_T33 l0 x4_1).f0) from Kd.V_mk ul138_0 ge138_0)
                                    clear hva_ hvn_ hvc_ ge138_0 ul138_0
                                    clear hcc138 hce138
                                    have HR138_0 := Aside0.mk hi138_0
                                    have HC138_0 := Aside0.mk hl138_0
                                    clear hi138_0 hl138_0
                                    replace p138 := eq_true p138
                                    replace q138 := eq_true q138
                                    refine start_ (n := 15) (S := fun w' => w'.cell? (ad137.add (((ji5)).toNat * 5)) = some (.slice A137_0 ((rd_T33 x3_1 (ji5)).f0).length c137_0) ∧ w'.cell? ⟨(ad137.add (((ji5)).toNat * 5)).block, (ad137.add (((ji5)).toNat * 5)).off + 1, none⟩ = some (.int .i64 ((rd_T33 x3_1 (ji5)).f1)) ∧ w'.cell? ⟨(ad137.add (((ji5)).toNat * 5)).block, (ad137.add (((ji5)).toNat * 5)).off + 2, none⟩ = some (.int .i64 ((rd_T33 x3_1 (ji5)).f2)) ∧ w'.cell? ⟨(ad137.add (((ji5)).toNat * 5)).block, (ad137.add (((ji5)).toNat * 5)).off + 3, none⟩ = some (.bool ((rd_T33 x3_1 (ji5)).f3)) ∧ w'.cell? ⟨(ad137.add (((ji5)).toNat * 5)).block, (ad137.add (((ji5)).toNat * 5)).off + 4, none⟩ = some (.int .i64 ((rd_T33 x3_1 (ji5)).f4)) ∧ w'.cell? (ad138.add ((x4_1).toNat * 5)) = some (.slice A138_0 ((rd_T33 l0 x4_1).f0).length c138_0) ∧ w'.cell? ⟨(ad138.add ((x4_1).toNat * 5)).block, (ad138.add ((x4_1).toNat * 5)).off + 1, none⟩ = some (.int .i64 ((rd_T33 l0 x4_1).f1)) ∧ w'.cell? ⟨(ad138.add ((x4_1).toNat * 5)).block, (ad138.add ((x4_1).toNat * 5)).off + 2, none⟩ = some (.int .i64 ((rd_T33 l0 x4_1).f2)) ∧ w'.cell? ⟨(ad138.add ((x4_1).toNat * 5)).block, (ad138.add ((x4_1).toNat * 5)).off + 3, none⟩ = some (.bool ((rd_T33 l0 x4_1).f3)) ∧ w'.cell? ⟨(ad138.add ((x4_1).toNat * 5)).block, (ad138.add ((x4_1).toNat * 5)).off + 4, none⟩ = some (.int .i64 ((rd_T33 l0 x4_1).f4))) (ds := []) #[false, false, false, false, false, false, false, false, false, false, false, false, false, false, false] (by kernel_rfl) rfl rfl ⟨hx137_0, hx137_1, hx137_2, hx137_3, hx137_4, hx138_0, hx138_1, hx138_2, hx138_3, hx138_4⟩ (fun hHeld => ?_); refine with_tabW paronymref29_Sort.tab6 paronymref29_Sort.bits6 (fun HT_ HW_ => ?_)
                                    generalize wr.drew = w27 at HO_0 HO_3 HB HL137_0 HL138_0 HR137_0 HR138_0 hx137_0 hx137_1 hx137_2 hx137_3 hx137_4 hx138_0 hx138_1 hx138_2 hx138_3 hx138_4 hHeld ⊢
                                    refine pure_ (i := 0) (N := some 15) (v := ?_) (a' := ?_) #[true, false, false, false, false, false, false, false, false, false, false, false, false, false, false] rfl rfl (any_of HT_.out (by kernel_rfl)) (fun _ _ _ h => h) (Or.inl ⟨by rfl, ?_⟩) ?_ ?_
                                    rotate_left
                                    · intro w'
                                      go_simp
                                      with_reducible rfl
                                    rotate_left
                                    · simp only [Act.put, List.setIfInBounds_toArray, List.set_cons_zero, List.set_cons_succ, i64_w, i32_w]
                                      rfl
                                    refine pure_ (i := 1) (N := some 16) (v := ?_) (a' := ?_) #[true, true, false, false, false, false, false, false, false, false, false, false, false, false, false] rfl rfl (any_of HT_.out (by kernel_rfl)) (fun _ _ _ h => h) (Or.inl ⟨by rfl, ?_⟩) ?_ ?_
                                    rotate_left
                                    · intro w'
                                      go_simp
                                      with_reducible rfl
                                    rotate_left
                                    · simp only [Act.put, List.setIfInBounds_toArray, List.set_cons_zero, List.set_cons_succ, i64_w, i32_w]
                                      rfl
                                    refine pure_ (i := 2) (N := some 17) (v := ?_) (a' := ?_) #[true, true, true, false, false, false, false, false, false, false, false, false, false, false, false] rfl rfl (any_of HT_.out (by kernel_rfl)) (fun _ _ _ h => h) (Or.inl ⟨by rfl, ?_⟩) ?_ ?_
                                    rotate_left
                                    · intro w'
                                      go_simp
                                      with_reducible rfl
                                    rotate_left
                                    · simp only [Act.put, List.setIfInBounds_toArray, List.set_cons_zero, List.set_cons_succ, i64_w, i32_w]
                                      rfl
                                    refine pure_ (i := 3) (N := some 18) (v := ?_) (a' := ?_) #[true, true, true, true, false, false, false, false, false, false, false, false, false, false, false] rfl rfl (any_of HT_.out (by kernel_rfl)) (fun _ _ _ h => h) (Or.inl ⟨by rfl, ?_⟩) ?_ ?_
                                    rotate_left
                                    · intro w'
                                      go_simp
                                      with_reducible rfl
                                    rotate_left
                                    · simp only [Act.put, List.setIfInBounds_toArray, List.set_cons_zero, List.set_cons_succ, i64_w, i32_w]
                                      rfl
                                    refine pure_ (i := 4) (N := some 19) (v := ?_) (a' := ?_) #[true, true, true, true, true, false, false, false, false, false, false, false, false, false, false] rfl rfl (any_of HT_.out (by kernel_rfl)) (fun _ _ _ h => h) (Or.inl ⟨by rfl, ?_⟩) ?_ ?_
                                    rotate_left
                                    · intro w'
                                      go_simp
                                      with_reducible rfl
                                    rotate_left
                                    · simp only [Act.put, List.setIfInBounds_toArray, List.set_cons_zero, List.set_cons_succ, i64_w, i32_w]
                                      rfl
                                    refine pure_ (i := 5) (N := some 20) (v := ?_) (a' := ?_) #[true, true, true, true, true, true, false, false, false, false, false, false, false, false, false] rfl rfl (any_of HT_.out (by kernel_rfl)) (fun _ _ _ h => h) (Or.inl ⟨by rfl, ?_⟩) ?_ ?_
                                    rotate_left
                                    · intro w'
                                      go_simp
                                      with_reducible rfl
                                    rotate_left
                                    · simp only [Act.put, List.setIfInBounds_toArray, List.set_cons_zero, List.set_cons_succ, i64_w, i32_w]
                                      rfl
                                    refine pure_ (i := 6) (N := some 21) (v := ?_) (a' := ?_) #[true, true, true, true, true, true, true, false, false, false, false, false, false, false, false] rfl rfl (any_of HT_.out (by kernel_rfl)) (fun _ _ _ h => h) (Or.inl ⟨by rfl, ?_⟩) ?_ ?_
                                    rotate_left
                                    · intro w'
                                      go_simp
                                      with_reducible rfl
                                    rotate_left
                                    · simp only [Act.put, List.setIfInBounds_toArray, List.set_cons_zero, List.set_cons_succ, i64_w, i32_w]
                                      rfl
                                    refine pure_ (i := 8) (N := some 23) (v := ?_) (a' := ?_) #[true, true, true, true, true, true, true, false, true, false, false, false, false, false, false] rfl rfl (any_of HT_.out (by kernel_rfl)) (fun _ _ _ h => h) (Or.inl ⟨by rfl, ?_⟩) ?_ ?_
                                    rotate_left
                                    · intro w'
                                      go_simp
                                      with_reducible rfl
                                    rotate_left
                                    · simp only [Act.put, List.setIfInBounds_toArray, List.set_cons_zero, List.set_cons_succ, i64_w, i32_w]
                                      rfl
                                    refine pure_ (i := 9) (N := some 24) (v := ?_) (a' := ?_) #[true, true, true, true, true, true, true, false, true, true, false, false, false, false, false] rfl rfl (any_of HT_.out (by kernel_rfl)) (fun _ _ _ h => h) (Or.inl ⟨by rfl, ?_⟩) ?_ ?_
                                    rotate_left
                                    · intro w'
                                      go_simp
                                      with_reducible rfl
                                    rotate_left
                                    · simp only [Act.put, List.setIfInBounds_toArray, List.set_cons_zero, List.set_cons_succ, i64_w, i32_w]
                                      rfl
                                    refine pure_ (i := 10) (N := some 25) (v := ?_) (a' := ?_) #[true, true, true, true, true, true, true, false, true, true, true, false, false, false, false] rfl rfl (any_of HT_.out (by kernel_rfl)) (fun _ _ _ h => h) (Or.inl ⟨by rfl, ?_⟩) ?_ ?_
                                    rotate_left
                                    · intro w'
                                      go_simp
                                      with_reducible rfl
                                    rotate_left
                                    · simp only [Act.put, List.setIfInBounds_toArray, List.set_cons_zero, List.set_cons_succ, i64_w, i32_w]
                                      rfl
                                    refine take_ (i := 7) (N := some 22) (v := ?_) (a' := ?_) #[true, true, true, true, true, true, true, true, true, true, true, false, false, false, false] rfl rfl (take_ofW HT_.out HW_.out (by kernel_rfl)) (fun _ _ _ h => h) (Or.inl ⟨by rfl, ?_⟩) hHeld ?_ ?_
                                    rotate_left
                                    · rintro w' ⟨s0, s1, s2, s3, s4, s5, s6, s7, s8, s9⟩
                                      go_simp
                                      with_reducible rfl
                                    rotate_left
                                    · simp only [Act.put, List.setIfInBounds_toArray, List.set_cons_zero, List.set_cons_succ, i64_w, i32_w]
                                      rfl
                                    refine take_ (i := 11) (N := some 26) (v := ?_) (a' := ?_) #[true, true, true, true, true, true, true, true, true, true, true, true, false, false, false] rfl rfl (take_ofW HT_.out HW_.out (by kernel_rfl)) (fun _ _ _ h => h) (Or.inl ⟨by rfl, ?_⟩) hHeld ?_ ?_
                                    rotate_left
                                    · rintro w' ⟨s0, s1, s2, s3, s4, s5, s6, s7, s8, s9⟩
                                      go_simp
                                      with_reducible rfl
                                    rotate_left
                                    · simp only [Act.put, List.setIfInBounds_toArray, List.set_cons_zero, List.set_cons_succ, i64_w, i32_w]
                                      rfl
                                    refine one_ (i := 12) (N := some 27) #[true, true, true, true, true, true, true, true, true, true, true, true, true, false, false] rfl rfl (one_of HT_.out (by kernel_rfl)) (by decide) (fun K hK => ?_)
                                    refine goes_ Try.func26 (by kernel_rfl) rfl #[.agg #[.slice A137_0 ((rd_T33 x3_1 (ji5)).f0).length c137_0, .int .i64 ((rd_T33 x3_1 (ji5)).f1), .int .i64 ((rd_T33 x3_1 (ji5)).f2), .bool ((rd_T33 x3_1 (ji5)).f3), .int .i64 ((rd_T33 x3_1 (ji5)).f4)], .agg #[.slice A138_0 ((rd_T33 l0 x4_1).f0).length c138_0, .int .i64 ((rd_T33 l0 x4_1).f1), .int .i64 ((rd_T33 l0 x4_1).f2), .bool ((rd_T33 l0 x4_1).f3), .int .i64 ((rd_T33 l0 x4_1).f4)]] (by rfl) rfl rfl (by (try simp only [List.map_toArray, List.map_cons, List.map_nil]); first | done | (simp only [hji5]; rfl) | rfl | (simp only [List.length_drop, List.length_take]; rfl)) ?_
                                    with_reducible refine (paronymref29_Compare.calls k2 _ _ ((rd_T33 x3_1 (ji5)).f0) ((rd_T33 x3_1 (ji5)).f1) ((rd_T33 x3_1 (ji5)).f2) ((rd_T33 x3_1 (ji5)).f3) ((rd_T33 x3_1 (ji5)).f4) _ _ ((rd_T33 l0 x4_1).f0) ((rd_T33 l0 x4_1).f1) ((rd_T33 l0 x4_1).f2) ((rd_T33 l0 x4_1).f3) ((rd_T33 l0 x4_1).f4) t139 _ ?side1 ?side2 ?side3 ?side4 A10.out).mono ?_
                                    (case side1 => repeat (first | exact (by repeat (first | (with_reducible exact HR137_0.out) | (with_reducible refine Kd.C_alloc ?_ _) | (with_reducible refine Kd.C_drewN ?_ _) | (with_reducible refine Kd.C_drew ?_) | exact HR137_0.out)) | (with_reducible refine Kd.C_alloc ?_ _) | (with_reducible refine Kd.C_drewN ?_ _) | (with_reducible refine Kd.C_drew ?_)))
                                    (case side2 => exact HC137_0.out)
                                    (case side3 => repeat (first | exact (by repeat (first | (with_reducible exact HR138_0.out) | (with_reducible refine Kd.C_alloc ?_ _) | (with_reducible refine Kd.C_drewN ?_ _) | (with_reducible refine Kd.C_drew ?_) | exact HR138_0.out)) | (with_reducible refine Kd.C_alloc ?_ _) | (with_reducible refine Kd.C_drewN ?_ _) | (with_reducible refine Kd.C_drew ?_)))
                                    (case side4 => exact HC138_0.out)
                                    rintro e w28 ⟨rfl, hb⟩
                                    have HS0_ := (hb.cell (World.block_lt_of_cell? _ _ (hHeld.1))).trans (hHeld.1)
                                    have HS1_ := (hb.cell (World.block_lt_of_cell? _ _ (hHeld.2.1))).trans (hHeld.2.1)
                                    have HS2_ := (hb.cell (World.block_lt_of_cell? _ _ (hHeld.2.2.1))).trans (hHeld.2.2.1)
                                    have HS3_ := (hb.cell (World.block_lt_of_cell? _ _ (hHeld.2.2.2.1))).trans (hHeld.2.2.2.1)
                                    have HS4_ := (hb.cell (World.block_lt_of_cell? _ _ (hHeld.2.2.2.2.1))).trans (hHeld.2.2.2.2.1)
                                    have HS5_ := (hb.cell (World.block_lt_of_cell? _ _ (hHeld.2.2.2.2.2.1))).trans (hHeld.2.2.2.2.2.1)
                                    have HS6_ := (hb.cell (World.block_lt_of_cell? _ _ (hHeld.2.2.2.2.2.2.1))).trans (hHeld.2.2.2.2.2.2.1)
                                    have HS7_ := (hb.cell (World.block_lt_of_cell? _ _ (hHeld.2.2.2.2.2.2.2.1))).trans (hHeld.2.2.2.2.2.2.2.1)
                                    have HS8_ := (hb.cell (World.block_lt_of_cell? _ _ (hHeld.2.2.2.2.2.2.2.2.1))).trans (hHeld.2.2.2.2.2.2.2.2.1)
                                    have HS9_ := (hb.cell (World.block_lt_of_cell? _ _ (hHeld.2.2.2.2.2.2.2.2.2))).trans (hHeld.2.2.2.2.2.2.2.2.2)
                                    refine ⟨_, rfl, ?_⟩
                                    have n0_ := Aside0.mk (Kd.V_below (by (with_reducible repeat (first | apply Kd.V_alloc | apply Kd.V_drewN | apply Kd.V_drew)); exact HO_0.out) hb)
                                    have n1_ := Aside0.mk (Kd.N_below (by (with_reducible repeat (first | apply Kd.N_alloc | apply Kd.N_drewN | apply Kd.N_drew)); exact HO_3.out) hb)
                                    have n2_ := Aside0.mk (Kd.V_below (by (with_reducible repeat (first | apply Kd.V_alloc | apply Kd.V_drewN | apply Kd.V_drew)); exact HL137_0.out) hb)
                                    have n3_ := Aside0.mk (Kd.V_below (by (with_reducible repeat (first | apply Kd.V_alloc | apply Kd.V_drewN | apply Kd.V_drew)); exact HL138_0.out) hb)
                                    have n4_ := Aside0.mk (Kd.C_below (by repeat (first | (with_reducible exact HR137_0.out) | (with_reducible refine Kd.C_alloc ?_ _) | (with_reducible refine Kd.C_drewN ?_ _) | (with_reducible refine Kd.C_drew ?_) | exact HR137_0.out)) hb)
                                    have n5_ := Aside0.mk (Kd.C_below (by repeat (first | (with_reducible exact HR138_0.out) | (with_reducible refine Kd.C_alloc ?_ _) | (with_reducible refine Kd.C_drewN ?_ _) | (with_reducible refine Kd.C_drew ?_) | exact HR138_0.out)) hb)
                                    have n6_ := Aside0.mk (below_step (by repeat (first | (with_reducible first | exact HB.out | apply below_alloc | apply pw_below_drewN | apply below_drew1) | exact HB.out)) hb)
                                    clear HO_0
                                    clear HO_3
                                    clear HL137_0
                                    clear HL138_0
                                    clear HR137_0
                                    clear HR138_0
                                    clear HB
                                    have HO_0 := n0_
                                    have HO_3 := n1_
                                    have HL137_0 := n2_
                                    have HL138_0 := n3_
                                    have HR137_0 := n4_
                                    have HR138_0 := n5_
                                    have HB := n6_
                                    clear n0_ n1_ n2_ n3_ n4_ n5_ n6_
                                    (try clear hb)
                                    (try clear hb2)
                                    (try clear hk)
                                    (try clear hi)
                                    refine hK.out _ _ ⟨HS0_, HS1_, HS2_, HS3_, HS4_, HS5_, HS6_, HS7_, HS8_, HS9_⟩ (fun hHeld => ?_)
                                    clear hK K
                                    refine norm_ (a' := ?_) ?_ ?_
                                    rotate_left
                                    · show Act.put _ (some 27) _ = _
                                      simp only [Act.put, List.setIfInBounds_toArray, List.set_cons_zero, List.set_cons_succ, i64_w, i32_w]
                                      rfl
                                    refine pure_ (i := 13) (N := some 28) (v := ?_) (a' := ?_) #[true, true, true, true, true, true, true, true, true, true, true, true, true, true, false] rfl rfl (any_of HT_.out (by kernel_rfl)) (fun _ _ _ h => h) (Or.inl ⟨by rfl, ?_⟩) ?_ ?_
                                    rotate_left
                                    · intro w'
                                      go_simp
                                      with_reducible rfl
                                    rotate_left
                                    · simp only [Act.put, List.setIfInBounds_toArray, List.set_cons_zero, List.set_cons_succ, i64_w, i32_w]
                                      rfl
                                    refine pure_ (i := 14) (N := some 29) (v := ?_) (a' := ?_) #[true, true, true, true, true, true, true, true, true, true, true, true, true, true, true] rfl rfl (any_of HT_.out (by kernel_rfl)) (fun _ _ _ h => h) (Or.inl ⟨by rfl, ?_⟩) ?_ ?_
                                    rotate_left
                                    · intro w'
                                      go_simp
                                      with_reducible rfl
                                    rotate_left
                                    · simp only [Act.put, List.setIfInBounds_toArray, List.set_cons_zero, List.set_cons_succ, i64_w, i32_w]
                                      rfl
                                    refine done_ (done_of HT_.out (by kernel_rfl)) ?_
                                    try go_wp2
                                    have n0_ := Aside0.mk (Kd.V_drew HO_0.out)
                                    have n1_ := Aside0.mk (Kd.N_drew HO_3.out)
                                    have n2_ := Aside0.mk (Kd.V_drew HL137_0.out)
                                    have n3_ := Aside0.mk (Kd.V_drew HL138_0.out)
                                    have n4_ := Aside0.mk (Kd.C_drew HR137_0.out)
                                    have n5_ := Aside0.mk (Kd.C_drew HR138_0.out)
                                    have n6_ := Aside0.mk (below_drew1 HB.out)
                                    clear HO_0
                                    clear HO_3
                                    clear HL137_0
                                    clear HL138_0
                                    clear HR137_0
                                    clear HR138_0
                                    clear HB
                                    have HO_0 := n0_
                                    have HO_3 := n1_
                                    have HL137_0 := n2_
                                    have HL138_0 := n3_
                                    have HR137_0 := n4_
                                    have HR138_0 := n5_
                                    have HB := n6_
                                    clear n0_ n1_ n2_ n3_ n4_ n5_ n6_
                                    have p140 : 0 ≤ ((ji5) : Int) := of_decide_eq_true (by first | (with_reducible assumption) | assumption)
                                    have q140 : (ji5) < (x3_1.length : Int) := of_decide_eq_true (by first | (with_reducible assumption) | assumption)
                                    obtain ⟨ad140, A140_0, c140_0, e140, hx140_0, hx140_1, hx140_2, hx140_3, hx140_4, hl140_0, hi140_0⟩ := at_T33 (Kd.N_reads' HO_3.out).2.2 (ji5) p140 q140
                                    obtain rfl : ad137 = ad140 := (by injection e140)
                                    obtain ⟨ce140, hce140, hMe140, hcc140⟩ := Kd.N_get HO_3.out z33 (ji5) p140 (by first | exact q140 | exact of_decide_eq_true (by first | (with_reducible assumption) | assumption) | (have e_ := (Kd.N_reads' HO_3.out).1; omega))
                                    obtain ⟨ua140_0, uc140_0, rfl, ul140_0, ge140_0⟩ := k33_openF hMe140
                                    have hv140_0 := hcc140 0 _ rfl
                                    rw [Nat.add_zero] at hv140_0
                                    replace hv140_0 := Option.some.inj (hv140_0.symm.trans hx140_0)
                                    injection hv140_0 with hva_ hvn_ hvc_
                                    rw [hva_] at ge140_0
                                    rw [hvc_] at ul140_0
                                    have HL140_0 := Aside0.mk (show Kd.V (Kd.int .i64) 3 _ w.heap.size _ _ ((rd_T33 x3_1 (ji5)).f0) from Kd.V_mk ul140_0 ge140_0)
                                    clear hva_ hvn_ hvc_ ge140_0 ul140_0
                                    clear hcc140 hce140
                                    have HR140_0 := Aside0.mk hi140_0
                                    have HC140_0 := Aside0.mk hl140_0
                                    clear hi140_0 hl140_0
                                    replace p140 := eq_true p140
                                    replace q140 := eq_true q140
                                    have p141 : 0 ≤ (x4_1 : Int) := of_decide_eq_true (by first | (with_reducible assumption) | assumption)
                                    have q141 : x4_1 < (l0.length : Int) := of_decide_eq_true (by first | (with_reducible assumption) | assumption)
                                    obtain ⟨ad141, A141_0, c141_0, e141, hx141_0, hx141_1, hx141_2, hx141_3, hx141_4, hl141_0, hi141_0⟩ := at_T33 (Kd.V_reads' HO_0.out).2.2 x4_1 p141 q141
                                    obtain rfl : ad138 = ad141 := (by injection e141)
                                    obtain ⟨ce141, hce141, hMe141, hcc141⟩ := Kd.V_get HO_0.out z33 x4_1 p141 (by first | exact q141 | exact of_decide_eq_true (by first | (with_reducible assumption) | assumption) | (have e_ := (Kd.V_reads' HO_0.out).1; omega))
                                    obtain ⟨ua141_0, uc141_0, rfl, ul141_0, ge141_0⟩ := k33_openF hMe141
                                    have hv141_0 := hcc141 0 _ rfl
                                    rw [Nat.add_zero] at hv141_0
                                    replace hv141_0 := Option.some.inj (hv141_0.symm.trans hx141_0)
                                    injection hv141_0 with hva_ hvn_ hvc_
                                    rw [hva_] at ge141_0
                                    rw [hvc_] at ul141_0
                                    have HL141_0 := Aside0.mk (show Kd.V (Kd.int .i64) 3 _ w.heap.size _ _ ((rd_T33 l0 x4_1).f0) from Kd.V_mk ul141_0 ge141_0)
                                    clear hva_ hvn_ hvc_ ge141_0 ul141_0
                                    clear hcc141 hce141
                                    have HR141_0 := Aside0.mk hi141_0
                                    have HC141_0 := Aside0.mk hl141_0
                                    clear hi141_0 hl141_0
                                    replace p141 := eq_true p141
                                    replace q141 := eq_true q141
                                    refine start_ (n := 15) (S := fun w' => w'.cell? (ad137.add (((ji5)).toNat * 5)) = some (.slice A140_0 ((rd_T33 x3_1 (ji5)).f0).length c140_0) ∧ w'.cell? ⟨(ad137.add (((ji5)).toNat * 5)).block, (ad137.add (((ji5)).toNat * 5)).off + 1, none⟩ = some (.int .i64 ((rd_T33 x3_1 (ji5)).f1)) ∧ w'.cell? ⟨(ad137.add (((ji5)).toNat * 5)).block, (ad137.add (((ji5)).toNat * 5)).off + 2, none⟩ = some (.int .i64 ((rd_T33 x3_1 (ji5)).f2)) ∧ w'.cell? ⟨(ad137.add (((ji5)).toNat * 5)).block, (ad137.add (((ji5)).toNat * 5)).off + 3, none⟩ = some (.bool ((rd_T33 x3_1 (ji5)).f3)) ∧ w'.cell? ⟨(ad137.add (((ji5)).toNat * 5)).block, (ad137.add (((ji5)).toNat * 5)).off + 4, none⟩ = some (.int .i64 ((rd_T33 x3_1 (ji5)).f4)) ∧ w'.cell? (ad138.add ((x4_1).toNat * 5)) = some (.slice A141_0 ((rd_T33 l0 x4_1).f0).length c141_0) ∧ w'.cell? ⟨(ad138.add ((x4_1).toNat * 5)).block, (ad138.add ((x4_1).toNat * 5)).off + 1, none⟩ = some (.int .i64 ((rd_T33 l0 x4_1).f1)) ∧ w'.cell? ⟨(ad138.add ((x4_1).toNat * 5)).block, (ad138.add ((x4_1).toNat * 5)).off + 2, none⟩ = some (.int .i64 ((rd_T33 l0 x4_1).f2)) ∧ w'.cell? ⟨(ad138.add ((x4_1).toNat * 5)).block, (ad138.add ((x4_1).toNat * 5)).off + 3, none⟩ = some (.bool ((rd_T33 l0 x4_1).f3)) ∧ w'.cell? ⟨(ad138.add ((x4_1).toNat * 5)).block, (ad138.add ((x4_1).toNat * 5)).off + 4, none⟩ = some (.int .i64 ((rd_T33 l0 x4_1).f4))) (ds := []) #[false, false, false, false, false, false, false, false, false, false, false, false, false, false, false] (by kernel_rfl) rfl rfl ⟨hx140_0, hx140_1, hx140_2, hx140_3, hx140_4, hx141_0, hx141_1, hx141_2, hx141_3, hx141_4⟩ (fun hHeld => ?_); refine with_tabW paronymref29_Sort.tab8 paronymref29_Sort.bits8 (fun HT_ HW_ => ?_)
                                    generalize w28.drew = w29 at HO_0 HO_3 HL137_0 HL138_0 HR137_0 HR138_0 HB HL140_0 HL141_0 HR140_0 HR141_0 hx140_0 hx140_1 hx140_2 hx140_3 hx140_4 hx141_0 hx141_1 hx141_2 hx141_3 hx141_4 hHeld ⊢
                                    refine pure_ (i := 0) (N := some 32) (v := ?_) (a' := ?_) #[true, false, false, false, false, false, false, false, false, false, false, false, false, false, false] rfl rfl (any_of HT_.out (by kernel_rfl)) (fun _ _ _ h => h) (Or.inl ⟨by rfl, ?_⟩) ?_ ?_
                                    rotate_left
                                    · intro w'
                                      go_simp
                                      with_reducible rfl
                                    rotate_left
                                    · simp only [Act.put, List.setIfInBounds_toArray, List.set_cons_zero, List.set_cons_succ, i64_w, i32_w]
                                      rfl
                                    refine pure_ (i := 1) (N := some 33) (v := ?_) (a' := ?_) #[true, true, false, false, false, false, false, false, false, false, false, false, false, false, false] rfl rfl (any_of HT_.out (by kernel_rfl)) (fun _ _ _ h => h) (Or.inl ⟨by rfl, ?_⟩) ?_ ?_
                                    rotate_left
                                    · intro w'
                                      go_simp
                                      with_reducible rfl
                                    rotate_left
                                    · simp only [Act.put, List.setIfInBounds_toArray, List.set_cons_zero, List.set_cons_succ, i64_w, i32_w]
                                      rfl
                                    refine pure_ (i := 2) (N := some 34) (v := ?_) (a' := ?_) #[true, true, true, false, false, false, false, false, false, false, false, false, false, false, false] rfl rfl (any_of HT_.out (by kernel_rfl)) (fun _ _ _ h => h) (Or.inl ⟨by rfl, ?_⟩) ?_ ?_
                                    rotate_left
                                    · intro w'
                                      go_simp
                                      with_reducible rfl
                                    rotate_left
                                    · simp only [Act.put, List.setIfInBounds_toArray, List.set_cons_zero, List.set_cons_succ, i64_w, i32_w]
                                      rfl
                                    refine pure_ (i := 3) (N := some 35) (v := ?_) (a' := ?_) #[true, true, true, true, false, false, false, false, false, false, false, false, false, false, false] rfl rfl (any_of HT_.out (by kernel_rfl)) (fun _ _ _ h => h) (Or.inl ⟨by rfl, ?_⟩) ?_ ?_
                                    rotate_left
                                    · intro w'
                                      go_simp
                                      with_reducible rfl
                                    rotate_left
                                    · simp only [Act.put, List.setIfInBounds_toArray, List.set_cons_zero, List.set_cons_succ, i64_w, i32_w]
                                      rfl
                                    refine pure_ (i := 4) (N := some 36) (v := ?_) (a' := ?_) #[true, true, true, true, true, false, false, false, false, false, false, false, false, false, false] rfl rfl (any_of HT_.out (by kernel_rfl)) (fun _ _ _ h => h) (Or.inl ⟨by rfl, ?_⟩) ?_ ?_
                                    rotate_left
                                    · intro w'
                                      go_simp
                                      with_reducible rfl
                                    rotate_left
                                    · simp only [Act.put, List.setIfInBounds_toArray, List.set_cons_zero, List.set_cons_succ, i64_w, i32_w]
                                      rfl
                                    refine pure_ (i := 5) (N := some 37) (v := ?_) (a' := ?_) #[true, true, true, true, true, true, false, false, false, false, false, false, false, false, false] rfl rfl (any_of HT_.out (by kernel_rfl)) (fun _ _ _ h => h) (Or.inl ⟨by rfl, ?_⟩) ?_ ?_
                                    rotate_left
                                    · intro w'
                                      go_simp
                                      with_reducible rfl
                                    rotate_left
                                    · simp only [Act.put, List.setIfInBounds_toArray, List.set_cons_zero, List.set_cons_succ, i64_w, i32_w]
                                      rfl
                                    refine pure_ (i := 6) (N := some 38) (v := ?_) (a' := ?_) #[true, true, true, true, true, true, true, false, false, false, false, false, false, false, false] rfl rfl (any_of HT_.out (by kernel_rfl)) (fun _ _ _ h => h) (Or.inl ⟨by rfl, ?_⟩) ?_ ?_
                                    rotate_left
                                    · intro w'
                                      go_simp
                                      with_reducible rfl
                                    rotate_left
                                    · simp only [Act.put, List.setIfInBounds_toArray, List.set_cons_zero, List.set_cons_succ, i64_w, i32_w]
                                      rfl
                                    refine pure_ (i := 8) (N := some 40) (v := ?_) (a' := ?_) #[true, true, true, true, true, true, true, false, true, false, false, false, false, false, false] rfl rfl (any_of HT_.out (by kernel_rfl)) (fun _ _ _ h => h) (Or.inl ⟨by rfl, ?_⟩) ?_ ?_
                                    rotate_left
                                    · intro w'
                                      go_simp
                                      with_reducible rfl
                                    rotate_left
                                    · simp only [Act.put, List.setIfInBounds_toArray, List.set_cons_zero, List.set_cons_succ, i64_w, i32_w]
                                      rfl
                                    refine pure_ (i := 9) (N := some 41) (v := ?_) (a' := ?_) #[true, true, true, true, true, true, true, false, true, true, false, false, false, false, false] rfl rfl (any_of HT_.out (by kernel_rfl)) (fun _ _ _ h => h) (Or.inl ⟨by rfl, ?_⟩) ?_ ?_
                                    rotate_left
                                    · intro w'
                                      go_simp
                                      with_reducible rfl
                                    rotate_left
                                    · simp only [Act.put, List.setIfInBounds_toArray, List.set_cons_zero, List.set_cons_succ, i64_w, i32_w]
                                      rfl
                                    refine pure_ (i := 10) (N := some 42) (v := ?_) (a' := ?_) #[true, true, true, true, true, true, true, false, true, true, true, false, false, false, false] rfl rfl (any_of HT_.out (by kernel_rfl)) (fun _ _ _ h => h) (Or.inl ⟨by rfl, ?_⟩) ?_ ?_
                                    rotate_left
                                    · intro w'
                                      go_simp
                                      with_reducible rfl
                                    rotate_left
                                    · simp only [Act.put, List.setIfInBounds_toArray, List.set_cons_zero, List.set_cons_succ, i64_w, i32_w]
                                      rfl
                                    refine take_ (i := 7) (N := some 39) (v := ?_) (a' := ?_) #[true, true, true, true, true, true, true, true, true, true, true, false, false, false, false] rfl rfl (take_ofW HT_.out HW_.out (by kernel_rfl)) (fun _ _ _ h => h) (Or.inl ⟨by rfl, ?_⟩) hHeld ?_ ?_
                                    rotate_left
                                    · rintro w' ⟨s0, s1, s2, s3, s4, s5, s6, s7, s8, s9⟩
                                      go_simp
                                      with_reducible rfl
                                    rotate_left
                                    · simp only [Act.put, List.setIfInBounds_toArray, List.set_cons_zero, List.set_cons_succ, i64_w, i32_w]
                                      rfl
                                    refine take_ (i := 11) (N := some 43) (v := ?_) (a' := ?_) #[true, true, true, true, true, true, true, true, true, true, true, true, false, false, false] rfl rfl (take_ofW HT_.out HW_.out (by kernel_rfl)) (fun _ _ _ h => h) (Or.inl ⟨by rfl, ?_⟩) hHeld ?_ ?_
                                    rotate_left
                                    · rintro w' ⟨s0, s1, s2, s3, s4, s5, s6, s7, s8, s9⟩
                                      go_simp
                                      with_reducible rfl
                                    rotate_left
                                    · simp only [Act.put, List.setIfInBounds_toArray, List.set_cons_zero, List.set_cons_succ, i64_w, i32_w]
                                      rfl
                                    refine one_ (i := 12) (N := some 44) #[true, true, true, true, true, true, true, true, true, true, true, true, true, false, false] rfl rfl (one_of HT_.out (by kernel_rfl)) (by decide) (fun K hK => ?_)
                                    refine goes_ Try.func26 (by kernel_rfl) rfl #[.agg #[.slice A140_0 ((rd_T33 x3_1 (ji5)).f0).length c140_0, .int .i64 ((rd_T33 x3_1 (ji5)).f1), .int .i64 ((rd_T33 x3_1 (ji5)).f2), .bool ((rd_T33 x3_1 (ji5)).f3), .int .i64 ((rd_T33 x3_1 (ji5)).f4)], .agg #[.slice A141_0 ((rd_T33 l0 x4_1).f0).length c141_0, .int .i64 ((rd_T33 l0 x4_1).f1), .int .i64 ((rd_T33 l0 x4_1).f2), .bool ((rd_T33 l0 x4_1).f3), .int .i64 ((rd_T33 l0 x4_1).f4)]] (by rfl) rfl rfl (by (try simp only [List.map_toArray, List.map_cons, List.map_nil]); first | done | (simp only [hji5]; rfl) | rfl | (simp only [List.length_drop, List.length_take]; rfl)) ?_
                                    with_reducible refine (paronymref29_Compare.calls k2 _ _ ((rd_T33 x3_1 (ji5)).f0) ((rd_T33 x3_1 (ji5)).f1) ((rd_T33 x3_1 (ji5)).f2) ((rd_T33 x3_1 (ji5)).f3) ((rd_T33 x3_1 (ji5)).f4) _ _ ((rd_T33 l0 x4_1).f0) ((rd_T33 l0 x4_1).f1) ((rd_T33 l0 x4_1).f2) ((rd_T33 l0 x4_1).f3) ((rd_T33 l0 x4_1).f4) t142 _ ?side1 ?side2 ?side3 ?side4 A14.out).mono ?_
                                    (case side1 => repeat (first | exact (by repeat (first | (with_reducible exact HR140_0.out) | (with_reducible refine Kd.C_alloc ?_ _) | (with_reducible refine Kd.C_drewN ?_ _) | (with_reducible refine Kd.C_drew ?_) | exact HR140_0.out)) | (with_reducible refine Kd.C_alloc ?_ _) | (with_reducible refine Kd.C_drewN ?_ _) | (with_reducible refine Kd.C_drew ?_)))
                                    (case side2 => exact HC140_0.out)
                                    (case side3 => repeat (first | exact (by repeat (first | (with_reducible exact HR141_0.out) | (with_reducible refine Kd.C_alloc ?_ _) | (with_reducible refine Kd.C_drewN ?_ _) | (with_reducible refine Kd.C_drew ?_) | exact HR141_0.out)) | (with_reducible refine Kd.C_alloc ?_ _) | (with_reducible refine Kd.C_drewN ?_ _) | (with_reducible refine Kd.C_drew ?_)))
                                    (case side4 => exact HC141_0.out)
                                    rintro e w30 ⟨rfl, hb⟩
                                    have HS0_ := (hb.cell (World.block_lt_of_cell? _ _ (hHeld.1))).trans (hHeld.1)
                                    have HS1_ := (hb.cell (World.block_lt_of_cell? _ _ (hHeld.2.1))).trans (hHeld.2.1)
                                    have HS2_ := (hb.cell (World.block_lt_of_cell? _ _ (hHeld.2.2.1))).trans (hHeld.2.2.1)
                                    have HS3_ := (hb.cell (World.block_lt_of_cell? _ _ (hHeld.2.2.2.1))).trans (hHeld.2.2.2.1)
                                    have HS4_ := (hb.cell (World.block_lt_of_cell? _ _ (hHeld.2.2.2.2.1))).trans (hHeld.2.2.2.2.1)
                                    have HS5_ := (hb.cell (World.block_lt_of_cell? _ _ (hHeld.2.2.2.2.2.1))).trans (hHeld.2.2.2.2.2.1)
                                    have HS6_ := (hb.cell (World.block_lt_of_cell? _ _ (hHeld.2.2.2.2.2.2.1))).trans (hHeld.2.2.2.2.2.2.1)
                                    have HS7_ := (hb.cell (World.block_lt_of_cell? _ _ (hHeld.2.2.2.2.2.2.2.1))).trans (hHeld.2.2.2.2.2.2.2.1)
                                    have HS8_ := (hb.cell (World.block_lt_of_cell? _ _ (hHeld.2.2.2.2.2.2.2.2.1))).trans (hHeld.2.2.2.2.2.2.2.2.1)
                                    have HS9_ := (hb.cell (World.block_lt_of_cell? _ _ (hHeld.2.2.2.2.2.2.2.2.2))).trans (hHeld.2.2.2.2.2.2.2.2.2)
                                    refine ⟨_, rfl, ?_⟩
                                    have n0_ := Aside0.mk (Kd.V_below (by (with_reducible repeat (first | apply Kd.V_alloc | apply Kd.V_drewN | apply Kd.V_drew)); exact HO_0.out) hb)
                                    have n1_ := Aside0.mk (Kd.N_below (by (with_reducible repeat (first | apply Kd.N_alloc | apply Kd.N_drewN | apply Kd.N_drew)); exact HO_3.out) hb)
                                    have n2_ := Aside0.mk (Kd.V_below (by (with_reducible repeat (first | apply Kd.V_alloc | apply Kd.V_drewN | apply Kd.V_drew)); exact HL137_0.out) hb)
                                    have n3_ := Aside0.mk (Kd.V_below (by (with_reducible repeat (first | apply Kd.V_alloc | apply Kd.V_drewN | apply Kd.V_drew)); exact HL138_0.out) hb)
                                    have n4_ := Aside0.mk (Kd.V_below (by (with_reducible repeat (first | apply Kd.V_alloc | apply Kd.V_drewN | apply Kd.V_drew)); exact HL140_0.out) hb)
                                    have n5_ := Aside0.mk (Kd.V_below (by (with_reducible repeat (first | apply Kd.V_alloc | apply Kd.V_drewN | apply Kd.V_drew)); exact HL141_0.out) hb)
                                    have n6_ := Aside0.mk (Kd.C_below (by repeat (first | (with_reducible exact HR137_0.out) | (with_reducible refine Kd.C_alloc ?_ _) | (with_reducible refine Kd.C_drewN ?_ _) | (with_reducible refine Kd.C_drew ?_) | exact HR137_0.out)) hb)
                                    have n7_ := Aside0.mk (Kd.C_below (by repeat (first | (with_reducible exact HR138_0.out) | (with_reducible refine Kd.C_alloc ?_ _) | (with_reducible refine Kd.C_drewN ?_ _) | (with_reducible refine Kd.C_drew ?_) | exact HR138_0.out)) hb)
                                    have n8_ := Aside0.mk (Kd.C_below (by repeat (first | (with_reducible exact HR140_0.out) | (with_reducible refine Kd.C_alloc ?_ _) | (with_reducible refine Kd.C_drewN ?_ _) | (with_reducible refine Kd.C_drew ?_) | exact HR140_0.out)) hb)
                                    have n9_ := Aside0.mk (Kd.C_below (by repeat (first | (with_reducible exact HR141_0.out) | (with_reducible refine Kd.C_alloc ?_ _) | (with_reducible refine Kd.C_drewN ?_ _) | (with_reducible refine Kd.C_drew ?_) | exact HR141_0.out)) hb)
                                    have n10_ := Aside0.mk (below_step (by repeat (first | (with_reducible first | exact HB.out | apply below_alloc | apply pw_below_drewN | apply below_drew1) | exact HB.out)) hb)
                                    clear HO_0
                                    clear HO_3
                                    clear HL137_0
                                    clear HL138_0
                                    clear HL140_0
                                    clear HL141_0
                                    clear HR137_0
                                    clear HR138_0
                                    clear HR140_0
                                    clear HR141_0
                                    clear HB
                                    have HO_0 := n0_
                                    have HO_3 := n1_
                                    have HL137_0 := n2_
                                    have HL138_0 := n3_
                                    have HL140_0 := n4_
                                    have HL141_0 := n5_
                                    have HR137_0 := n6_
                                    have HR138_0 := n7_
                                    have HR140_0 := n8_
                                    have HR141_0 := n9_
                                    have HB := n10_
                                    clear n0_ n1_ n2_ n3_ n4_ n5_ n6_ n7_ n8_ n9_ n10_
                                    (try clear hb)
                                    (try clear hb2)
                                    (try clear hk)
                                    (try clear hi)
                                    refine hK.out _ _ ⟨HS0_, HS1_, HS2_, HS3_, HS4_, HS5_, HS6_, HS7_, HS8_, HS9_⟩ (fun hHeld => ?_)
                                    clear hK K
                                    refine norm_ (a' := ?_) ?_ ?_
                                    rotate_left
                                    · show Act.put _ (some 44) _ = _
                                      simp only [Act.put, List.setIfInBounds_toArray, List.set_cons_zero, List.set_cons_succ, i64_w, i32_w]
                                      rfl
                                    refine pure_ (i := 13) (N := some 45) (v := ?_) (a' := ?_) #[true, true, true, true, true, true, true, true, true, true, true, true, true, true, false] rfl rfl (any_of HT_.out (by kernel_rfl)) (fun _ _ _ h => h) (Or.inl ⟨by rfl, ?_⟩) ?_ ?_
                                    rotate_left
                                    · intro w'
                                      go_simp
                                      with_reducible rfl
                                    rotate_left
                                    · simp only [Act.put, List.setIfInBounds_toArray, List.set_cons_zero, List.set_cons_succ, i64_w, i32_w]
                                      rfl
                                    refine pure_ (i := 14) (N := some 46) (v := ?_) (a' := ?_) #[true, true, true, true, true, true, true, true, true, true, true, true, true, true, true] rfl rfl (any_of HT_.out (by kernel_rfl)) (fun _ _ _ h => h) (Or.inl ⟨by rfl, ?_⟩) ?_ ?_
                                    rotate_left
                                    · intro w'
                                      go_simp
                                      with_reducible rfl
                                    rotate_left
                                    · simp only [Act.put, List.setIfInBounds_toArray, List.set_cons_zero, List.set_cons_succ, i64_w, i32_w]
                                      rfl
                                    refine done_ (done_of HT_.out (by kernel_rfl)) ?_
                                    have q31 : (x5_2 : Int) ≤ ((x3_1.length : Int) : Int) := of_decide_eq_true (by first | (with_reducible assumption) | assumption)
                                    obtain ⟨i031, hi031, _, hsz31, _⟩ := info_parts info33
                                    have hroom31 : x3_1.length ≤ co3 := (Kd.N_reads' HO_3.out).2.1
                                    have hC31 : Kd.F k33 _ _ (some ad137) x3_1.length x3_1 := (Kd.V_at (base := w.heap.size) (Kd.N_V HO_3.out)).2.2
                                    have hcut31 := cut_to (P := Try.prog) 35 33 .i64 Try.underlying35 hi031 (some ad137) x3_1.length co3 x5_2 (of_decide_eq_true (by first | (with_reducible assumption) | assumption)) q31 hroom31
                                    have hr31 := Kd.F_take (m := (x5_2 : Int).toNat) hC31 (by omega)
                                    have hy31 : y143.length = (x5_2 : Int).toNat := (by rw [Ny143.out, List.length_take]; omega)
                                    rw [← Ny143.out] at hr31
                                    rw [← hy31] at hcut31
                                    have HO147 := Aside0.mk (show Kd.V k33 33 _ w.heap.size _ (.slice (some ad137) y143.length co3) y143 from Kd.V_mk (by omega) hr31)
                                    have HC147 := Aside0.mk (show y143.length ≤ co3 from by omega)
                                    clear hr31 hC31 hroom31 hi031 hsz31
                                    have KY31 := Aside0.mk hy31
                                    clear hy31
                                    replace q31 := eq_true q31
                                    try go_wp2_with (first | ((with_reducible refine gate_builtin (b := .append) (xs := #[.tmp 47, .tmp 50]) rfl ?_); at_builtin; refine Kd.N_append_rows k33 (w0 := w) w.heap.size rfl (.tmp 47) (.tmp 50) 35 33 (.agg #[(.slice none 0 0), (.int .i64 0), (.int .i64 0), (.bool false), (.int .i64 0)]) 56 rfl Try.underlying35 info33 rfl (by decide) (by omega) (.slice none 0 0) ([] : List (S33)) y143 _ _ _ (fun k_ => (P0_ k_ ∨ w.heap.size ≤ k_)) (fun k_ => ((fun k_ => (P0_ k_ ∨ w.heap.size ≤ k_))) k_ ∧ some k_ ≠ (.slice none 0 0 : Value).ownBlock) rfl rfl ?aO ?aR (fun _ hk => hk) ?aF ?aB ?aS ?aL ?_; (case aR => exact (by skip; exact Kd.V_F (Kd.V_mono (ok' := (fun k_ => ((fun k_ => (P0_ k_ ∨ w.heap.size ≤ k_))) k_ ∧ some k_ ≠ (.slice none 0 0 : Value).ownBlock)) (HO147.out) (fun k_ hk => ⟨hk, (by simp [Value.ownBlock])⟩)))); (case aB => exact (by repeat (first | (with_reducible first | exact HB.out | apply below_alloc | apply pw_below_drewN | apply below_drew1) | exact HB.out))); (case aF => exact (fun k_ hk => (.inr (Nat.le_trans (below_size (by repeat (first | (with_reducible first | exact HB.out | apply below_alloc | apply pw_below_drewN | apply below_drew1) | exact HB.out))) hk)))); (case aO => exact ((Kd.N_nil _ _ _ _ (fun k_ => (P0_ k_ ∨ w.heap.size ≤ k_))))); (case aS => exact (below_size (by repeat (first | (with_reducible first | exact HB.out | apply below_alloc | apply pw_below_drewN | apply below_drew1) | exact HB.out)))); (case aL => have := LMc22.out; omega); intro v149 w32 ho hb hg hat; rw [← Ny148.out] at ho; have n0_ := Aside0.mk (Kd.V_afterv (Kd.V_apart_nil (by (with_reducible repeat (first | apply Kd.V_alloc | apply Kd.V_drewN | apply Kd.V_drew)); exact HO_0.out)) hg hat); have n1_ := Aside0.mk (Kd.N_afterv (Kd.N_apart_nil (by (with_reducible repeat (first | apply Kd.N_alloc | apply Kd.N_drewN | apply Kd.N_drew)); exact HO_3.out)) hg hat); have n2_ := Aside0.mk (Kd.V_afterv (Kd.V_apart_nil (by (with_reducible repeat (first | apply Kd.V_alloc | apply Kd.V_drewN | apply Kd.V_drew)); exact HL137_0.out)) hg hat); have n3_ := Aside0.mk (Kd.V_afterv (Kd.V_apart_nil (by (with_reducible repeat (first | apply Kd.V_alloc | apply Kd.V_drewN | apply Kd.V_drew)); exact HL138_0.out)) hg hat); have n4_ := Aside0.mk (Kd.V_afterv (Kd.V_apart_nil (by (with_reducible repeat (first | apply Kd.V_alloc | apply Kd.V_drewN | apply Kd.V_drew)); exact HL140_0.out)) hg hat); have n5_ := Aside0.mk (Kd.V_afterv (Kd.V_apart_nil (by (with_reducible repeat (first | apply Kd.V_alloc | apply Kd.V_drewN | apply Kd.V_drew)); exact HL141_0.out)) hg hat); have n6_ := Aside0.mk (Kd.V_afterv (Kd.V_apart_nil (by (with_reducible repeat (first | apply Kd.V_alloc | apply Kd.V_drewN | apply Kd.V_drew)); exact HO147.out)) hg hat); have n7_ := Aside0.mk (hb); have n8_ := Aside0.mk (ho); clear HO_0; clear HO_3; clear HL137_0; clear HL138_0; clear HL140_0; clear HL141_0; clear HO147; clear HB; have HO_0 := n0_; have HO_3 := n1_; have HL137_0 := n2_; have HL138_0 := n3_; have HL140_0 := n4_; have HL141_0 := n5_; have HO147 := n6_; have HB := n7_; have HO150 := n8_; clear n0_ n1_ n2_ n3_ n4_ n5_ n6_ n7_ n8_; clear ho hb hg hat; have p151 : 0 ≤ (x4_1 : Int) := of_decide_eq_true (by first | (with_reducible assumption) | assumption); have q151 : x4_1 < (l0.length : Int) := of_decide_eq_true (by first | (with_reducible assumption) | assumption); obtain ⟨ad151, A151_0, c151_0, e151, hx151_0, hx151_1, hx151_2, hx151_3, hx151_4, hl151_0, hi151_0⟩ := at_T33 (Kd.V_reads' HO_0.out).2.2 x4_1 p151 q151; obtain rfl : ad138 = ad151 := (by injection e151); obtain ⟨ce151, hce151, hMe151, hcc151⟩ := Kd.V_get HO_0.out z33 x4_1 p151 (by first | exact q151 | exact of_decide_eq_true (by first | (with_reducible assumption) | assumption) | (have e_ := (Kd.V_reads' HO_0.out).1; omega)); obtain ⟨ua151_0, uc151_0, rfl, ul151_0, ge151_0⟩ := k33_openF hMe151; have hv151_0 := hcc151 0 _ rfl; rw [Nat.add_zero] at hv151_0; replace hv151_0 := Option.some.inj (hv151_0.symm.trans hx151_0); injection hv151_0 with hva_ hvn_ hvc_; rw [hva_] at ge151_0; rw [hvc_] at ul151_0; have HL151_0 := Aside0.mk (show Kd.V (Kd.int .i64) 3 _ w.heap.size _ _ ((rd_T33 l0 x4_1).f0) from Kd.V_mk ul151_0 ge151_0); clear hva_ hvn_ hvc_ ge151_0 ul151_0; clear hcc151 hce151; have HR151_0 := Aside0.mk hi151_0; have HC151_0 := Aside0.mk hl151_0; clear hi151_0 hl151_0; replace p151 := eq_true p151; replace q151 := eq_true q151) | ((with_reducible refine gate_builtin (b := .append) (xs := #[.tmp 52, .tmp 57]) rfl ?_); at_builtin; refine Kd.N_append k33 (w0 := w) w.heap.size rfl (.tmp 52) (.tmp 57) 35 33 (.agg #[(.slice none 0 0), (.int .i64 0), (.int .i64 0), (.bool false), (.int .i64 0)]) 56 rfl Try.underlying35 info33 rfl (by decide) (by omega) v149 y148 (⟨(rd_T33 l0 x4_1).f0, (rd_T33 l0 x4_1).f1, (rd_T33 l0 x4_1).f2, (rd_T33 l0 x4_1).f3, (rd_T33 l0 x4_1).f4⟩ : S33) [.slice A151_0 ((rd_T33 l0 x4_1).f0).length c151_0, .int .i64 ((rd_T33 l0 x4_1).f1), .int .i64 ((rd_T33 l0 x4_1).f2), .bool ((rd_T33 l0 x4_1).f3), .int .i64 ((rd_T33 l0 x4_1).f4)] (fun k_ => (P0_ k_ ∨ w.heap.size ≤ k_)) (fun k_ => ((fun k_ => (P0_ k_ ∨ w.heap.size ≤ k_))) k_ ∧ some k_ ≠ (v149 : Value).ownBlock) rfl rfl ?aP (fun _ hk => hk) ?aF ?aO ?aB ?aS ?aL ?_; (case aP => exact (k33_mkF _ _ (⟨(rd_T33 l0 x4_1).f0, (rd_T33 l0 x4_1).f1, (rd_T33 l0 x4_1).f2, (rd_T33 l0 x4_1).f3, (rd_T33 l0 x4_1).f4⟩ : S33) (Kd.V_reads' (Kd.V_mono (ok' := (fun k_ => ((fun k_ => (P0_ k_ ∨ w.heap.size ≤ k_))) k_ ∧ some k_ ≠ (v149 : Value).ownBlock)) (HL151_0.out) (fun k_ hk => ⟨hk.1.1, hk.2⟩))).2.1 (Kd.V_F (Kd.V_mono (ok' := (fun k_ => ((fun k_ => (P0_ k_ ∨ w.heap.size ≤ k_))) k_ ∧ some k_ ≠ (v149 : Value).ownBlock)) (HL151_0.out) (fun k_ hk => ⟨hk.1.1, hk.2⟩))))); (case aB => exact (by repeat (first | (with_reducible first | exact HB.out | apply below_alloc | apply pw_below_drewN | apply below_drew1) | exact HB.out))); (case aF => exact (fun k_ hk => (.inr (Nat.le_trans (below_size (by repeat (first | (with_reducible first | exact HB.out | apply below_alloc | apply pw_below_drewN | apply below_drew1) | exact HB.out))) hk)))); (case aO => exact (by (with_reducible repeat (first | apply Kd.N_alloc | apply Kd.N_drewN | apply Kd.N_drew)); exact HO150.out)); (case aS => exact (below_size (by repeat (first | (with_reducible first | exact HB.out | apply below_alloc | apply pw_below_drewN | apply below_drew1) | exact HB.out)))); (case aL => have := LMc23.out; omega); intro v153 w33 ho hb hg hat; rw [← Ny152.out] at ho; have n0_ := Aside0.mk (Kd.V_afterv (ok := (fun k_ => (P0_ k_ ∨ w.heap.size ≤ k_) ∧ some k_ ≠ (.slice (some ad137) x3_1.length co3 : Value).ownBlock)) (by (with_reducible repeat (first | apply Kd.V_alloc | apply Kd.V_drewN | apply Kd.V_drew)); exact HO_0.out) hg hat); have n1_ := Aside0.mk (Kd.N_afterv (ok := (fun k_ => (P0_ k_ ∨ w.heap.size ≤ k_))) (by (with_reducible repeat (first | apply Kd.N_alloc | apply Kd.N_drewN | apply Kd.N_drew)); exact HO_3.out) hg hat); have n2_ := Aside0.mk (Kd.V_afterv (ok := (fun k_ => (P0_ k_ ∨ w.heap.size ≤ k_) ∧ some k_ ≠ (.slice (some ad137) x3_1.length co3 : Value).ownBlock)) (by (with_reducible repeat (first | apply Kd.V_alloc | apply Kd.V_drewN | apply Kd.V_drew)); exact HL137_0.out) hg hat); have n3_ := Aside0.mk (Kd.V_afterv (ok := (fun k_ => (P0_ k_ ∨ w.heap.size ≤ k_) ∧ some k_ ≠ (.slice (some ad137) x3_1.length co3 : Value).ownBlock)) (by (with_reducible repeat (first | apply Kd.V_alloc | apply Kd.V_drewN | apply Kd.V_drew)); exact HL138_0.out) hg hat); have n4_ := Aside0.mk (Kd.V_afterv (ok := (fun k_ => (P0_ k_ ∨ w.heap.size ≤ k_) ∧ some k_ ≠ (.slice (some ad137) x3_1.length co3 : Value).ownBlock)) (by (with_reducible repeat (first | apply Kd.V_alloc | apply Kd.V_drewN | apply Kd.V_drew)); exact HL140_0.out) hg hat); have n5_ := Aside0.mk (Kd.V_afterv (ok := (fun k_ => (P0_ k_ ∨ w.heap.size ≤ k_) ∧ some k_ ≠ (.slice (some ad137) x3_1.length co3 : Value).ownBlock)) (by (with_reducible repeat (first | apply Kd.V_alloc | apply Kd.V_drewN | apply Kd.V_drew)); exact HL141_0.out) hg hat); have n6_ := Aside0.mk (Kd.V_afterv (ok := (fun k_ => (P0_ k_ ∨ w.heap.size ≤ k_))) (by (with_reducible repeat (first | apply Kd.V_alloc | apply Kd.V_drewN | apply Kd.V_drew)); exact HO147.out) hg hat); have n7_ := Aside0.mk (Kd.V_afterv (ok := (fun k_ => (P0_ k_ ∨ w.heap.size ≤ k_) ∧ some k_ ≠ (.slice (some ad137) x3_1.length co3 : Value).ownBlock)) (by (with_reducible repeat (first | apply Kd.V_alloc | apply Kd.V_drewN | apply Kd.V_drew)); exact HL151_0.out) hg hat); have n8_ := Aside0.mk (hb); have n9_ := Aside0.mk (ho); clear HO_0; clear HO_3; clear HL137_0; clear HL138_0; clear HL140_0; clear HL141_0; clear HO147; clear HL151_0; clear HB; clear HO150; have HO_0 := n0_; have HO_3 := n1_; have HL137_0 := n2_; have HL138_0 := n3_; have HL140_0 := n4_; have HL141_0 := n5_; have HO147 := n6_; have HL151_0 := n7_; have HB := n8_; have HO154 := n9_; clear n0_ n1_ n2_ n3_ n4_ n5_ n6_ n7_ n8_ n9_; clear ho hb hg hat; have q34 : (x5_2 : Int) ≤ ((x3_1.length : Int) : Int) := of_decide_eq_true (by first | (with_reducible assumption) | assumption); obtain ⟨i034, hi034, _, hsz34, _⟩ := info_parts info33; have hroom34 : x3_1.length ≤ co3 := (Kd.N_reads' HO_3.out).2.1; have hC34 : Kd.F k33 _ _ (some ad137) x3_1.length x3_1 := (Kd.V_at (base := w.heap.size) (Kd.N_V HO_3.out)).2.2; have q034 : (0 : Int) ≤ (x5_2 : Int) := of_decide_eq_true (by first | (with_reducible assumption) | assumption); have hcut34 := cut_from (P := Try.prog) 35 33 .i64 Try.underlying35 hi034 5 hsz34 (some ad137) x3_1.length co3 x5_2 q034 q34; have hr34 := Kd.F_cut (m := (x5_2 : Int).toNat) (c := co3) hC34 (by omega) hroom34; obtain ⟨A34, hA34⟩ : ∃ A1, A1 = (if co3 = (x5_2 : Int).toNat then (some ad137) else ((some ad137) : Option Addr).map (·.add ((x5_2 : Int).toNat * 5))) := ⟨_, rfl⟩; obtain ⟨c34, hc34⟩ : ∃ c1, c1 = co3 - (x5_2 : Int).toNat := ⟨_, rfl⟩; have hy34 : y155.length = x3_1.length - (x5_2 : Int).toNat := (by rw [Ny155.out, List.length_drop] <;> omega); rw [show (x3_1).drop (x5_2 : Int).toNat = y155 from Ny155.out.symm] at hr34; replace hr34 : Kd.F k33 _ _ A34 y155.length y155 := (by rw [hA34]; exact hr34); rw [← hy34, ← hA34, ← hc34] at hcut34; have HO159 := Aside0.mk (show Kd.V k33 33 _ w.heap.size _ (.slice A34 y155.length c34) y155 from Kd.V_mk (by rw [hy34, hc34]; exact Nat.sub_le_sub_right hroom34 _) hr34); have HC159 := Aside0.mk (show y155.length ≤ c34 from by rw [hy34, hc34]; exact Nat.sub_le_sub_right hroom34 _); clear hr34 hC34 hroom34 hi034 hsz34 hc34; have KY34 := Aside0.mk hy34; have KA34 := Aside0.mk hA34; clear hy34 hA34; replace q34 := eq_true q34) | ((with_reducible refine gate_builtin (b := .append) (xs := #[.tmp 59, .tmp 62]) rfl ?_); at_builtin; refine Kd.N_append_rows k33 (w0 := w) w.heap.size rfl (.tmp 59) (.tmp 62) 35 33 (.agg #[(.slice none 0 0), (.int .i64 0), (.int .i64 0), (.bool false), (.int .i64 0)]) 56 rfl Try.underlying35 info33 rfl (by decide) (by omega) v153 y152 y155 _ _ _ (fun k_ => (P0_ k_ ∨ w.heap.size ≤ k_)) (fun k_ => ((fun k_ => (P0_ k_ ∨ w.heap.size ≤ k_))) k_ ∧ some k_ ≠ (v153 : Value).ownBlock) rfl rfl ?aO ?aR (fun _ hk => hk) ?aF ?aB ?aS ?aL ?_; (case aR => exact (by skip; exact Kd.V_F (Kd.V_mono (ok' := (fun k_ => ((fun k_ => (P0_ k_ ∨ w.heap.size ≤ k_))) k_ ∧ some k_ ≠ (v153 : Value).ownBlock)) (HO159.out) (fun k_ hk => ⟨hk.1, hk.2⟩)))); (case aB => exact (by repeat (first | (with_reducible first | exact HB.out | apply below_alloc | apply pw_below_drewN | apply below_drew1) | exact HB.out))); (case aF => exact (fun k_ hk => (.inr (Nat.le_trans (below_size (by repeat (first | (with_reducible first | exact HB.out | apply below_alloc | apply pw_below_drewN | apply below_drew1) | exact HB.out))) hk)))); (case aO => exact (by (with_reducible repeat (first | apply Kd.N_alloc | apply Kd.N_drewN | apply Kd.N_drew)); exact HO154.out)); (case aS => exact (below_size (by repeat (first | (with_reducible first | exact HB.out | apply below_alloc | apply pw_below_drewN | apply below_drew1) | exact HB.out)))); (case aL => have := LMc26.out; omega); intro v161 w35 ho hb hg hat; rw [← Ny160.out] at ho; have n0_ := Aside0.mk (Kd.V_afterv (ok := (fun k_ => (P0_ k_ ∨ w.heap.size ≤ k_) ∧ some k_ ≠ (.slice (some ad137) x3_1.length co3 : Value).ownBlock)) (by (with_reducible repeat (first | apply Kd.V_alloc | apply Kd.V_drewN | apply Kd.V_drew)); exact HO_0.out) hg hat); have n1_ := Aside0.mk (Kd.N_afterv (ok := (fun k_ => (P0_ k_ ∨ w.heap.size ≤ k_))) (by (with_reducible repeat (first | apply Kd.N_alloc | apply Kd.N_drewN | apply Kd.N_drew)); exact HO_3.out) hg hat); have n2_ := Aside0.mk (Kd.V_afterv (ok := (fun k_ => (P0_ k_ ∨ w.heap.size ≤ k_) ∧ some k_ ≠ (.slice (some ad137) x3_1.length co3 : Value).ownBlock)) (by (with_reducible repeat (first | apply Kd.V_alloc | apply Kd.V_drewN | apply Kd.V_drew)); exact HL137_0.out) hg hat); have n3_ := Aside0.mk (Kd.V_afterv (ok := (fun k_ => (P0_ k_ ∨ w.heap.size ≤ k_) ∧ some k_ ≠ (.slice (some ad137) x3_1.length co3 : Value).ownBlock)) (by (with_reducible repeat (first | apply Kd.V_alloc | apply Kd.V_drewN | apply Kd.V_drew)); exact HL138_0.out) hg hat); have n4_ := Aside0.mk (Kd.V_afterv (ok := (fun k_ => (P0_ k_ ∨ w.heap.size ≤ k_) ∧ some k_ ≠ (.slice (some ad137) x3_1.length co3 : Value).ownBlock)) (by (with_reducible repeat (first | apply Kd.V_alloc | apply Kd.V_drewN | apply Kd.V_drew)); exact HL140_0.out) hg hat); have n5_ := Aside0.mk (Kd.V_afterv (ok := (fun k_ => (P0_ k_ ∨ w.heap.size ≤ k_) ∧ some k_ ≠ (.slice (some ad137) x3_1.length co3 : Value).ownBlock)) (by (with_reducible repeat (first | apply Kd.V_alloc | apply Kd.V_drewN | apply Kd.V_drew)); exact HL141_0.out) hg hat); have n6_ := Aside0.mk (Kd.V_afterv (ok := (fun k_ => (P0_ k_ ∨ w.heap.size ≤ k_))) (by (with_reducible repeat (first | apply Kd.V_alloc | apply Kd.V_drewN | apply Kd.V_drew)); exact HO147.out) hg hat); have n7_ := Aside0.mk (Kd.V_afterv (ok := (fun k_ => (P0_ k_ ∨ w.heap.size ≤ k_) ∧ some k_ ≠ (.slice (some ad137) x3_1.length co3 : Value).ownBlock)) (by (with_reducible repeat (first | apply Kd.V_alloc | apply Kd.V_drewN | apply Kd.V_drew)); exact HL151_0.out) hg hat); have n8_ := Aside0.mk (Kd.V_afterv (ok := (fun k_ => (P0_ k_ ∨ w.heap.size ≤ k_))) (by (with_reducible repeat (first | apply Kd.V_alloc | apply Kd.V_drewN | apply Kd.V_drew)); exact HO159.out) hg hat); have n9_ := Aside0.mk (hb); have n10_ := Aside0.mk (ho); clear HO_0; clear HO_3; clear HL137_0; clear HL138_0; clear HL140_0; clear HL141_0; clear HO147; clear HL151_0; clear HO159; clear HB; clear HO154; have HO_0 := n0_; have HO_3 := n1_; have HL137_0 := n2_; have HL138_0 := n3_; have HL140_0 := n4_; have HL141_0 := n5_; have HO147 := n6_; have HL151_0 := n7_; have HO159 := n8_; have HB := n9_; have HO162 := n10_; clear n0_ n1_ n2_ n3_ n4_ n5_ n6_ n7_ n8_ n9_ n10_; clear ho hb hg hat))
                                    go_roundg k2
                                    case measure => have := HK1.out; have := HK2.out; omega
                                    case rel => exact ⟨(y160), (wrap64 (x4_1 + 1)), (by first | rfl | (simp; done) | (simp [*]; done)), H', ⟨by have := HK1.out; have := HK2.out; omega⟩, ⟨by (with_reducible repeat (first | apply Kd.V_alloc | apply Kd.V_drewN | apply Kd.V_drew)); exact Kd.V_mono HO_0.out (fun _ hk => ⟨hk.1.1, hk.2⟩)⟩, ⟨by (with_reducible repeat (first | apply Kd.N_alloc | apply Kd.N_drewN | apply Kd.N_drew)); exact HO162.out⟩, ⟨by repeat (first | (with_reducible first | exact HB.out | apply below_alloc | apply pw_below_drewN | apply below_drew1) | exact HB.out)⟩⟩
                                  · rw [if_neg c26] at H
                                    exact absurd H (by simp)
                                · rw [if_neg c23] at H
                                  exact absurd H (by simp)
                              · rw [if_neg c22] at H
                                exact absurd H (by simp)
                            · rw [if_neg c21] at H
                              exact absurd H (by simp)
                          · rw [if_neg c20] at H
                            exact absurd H (by simp)
                    · rw [if_neg c9] at H
                      exact absurd H (by simp)
                  · rw [if_neg c8] at H
                    exact absurd H (by simp)
                · rw [if_neg c7] at H
                  exact absurd H (by simp)
              · rw [if_neg c6] at H
                exact absurd H (by simp)
            · rw [if_neg c4] at H
              have c4b0 : decide (0 < x5_2) = false := decide_eq_false c4
              clear c4
              by_cases c36 : 0 ≤ x5_2
              · rw [if_pos c36] at H
                have c36b0 := eq_true c36
                have c36b1 : decide (0 ≤ x5_2) = true := decide_eq_true c36
                clear c36
                by_cases c37 : x5_2 ≤ (x3_1.length : Int)
                · rw [if_pos c37] at H
                  have c37b0 := eq_true c37
                  have c37b1 : decide (x5_2 ≤ (x3_1.length : Int)) = true := decide_eq_true c37
                  clear c37
                  obtain ⟨y163, hy163⟩ : ∃ y_ : List (S33), y_ = (x3_1.take (x5_2 : Int).toNat) := ⟨_, rfl⟩
                  replace H : (if ([] : List (S33)).length + y163.length < 2513169434916 then ((some (([] : List (S33)) ++ y163 : List (S33))).bind fun y168 => (if 0 ≤ x4_1 then (if x4_1 < (l0.length : Int) then (if y168.length < 2513169434916 then ((some (y168 ++ [(⟨(rd_T33 l0 x4_1).f0, (rd_T33 l0 x4_1).f1, (rd_T33 l0 x4_1).f2, (rd_T33 l0 x4_1).f3, (rd_T33 l0 x4_1).f4⟩ : S33)] : List (S33))).bind fun y172 => ((some (x3_1.drop (x5_2 : Int).toNat : List (S33))).bind fun y175 => (if y172.length + y175.length < 2513169434916 then (paronymref29_Sort.l0 k2 l0 (y172 ++ y175) (wrap64 (x4_1 + 1))) else (none)))) else (none)) else (none)) else (none))) else (none)) = some r := by first | (rw [hy163]; with_reducible exact H) | (have H2_ := (Option.bind_some _ _).symm.trans H; rw [hy163]; with_reducible exact H2_) | (have H2_ := (Option.bind_some _ _).symm.trans H; with_reducible exact H2_) | with_reducible exact H | (rw [hy163]; exact H) | exact H
                  have Ny163 := Aside0.mk hy163
                  clear hy163
                  by_cases c38 : ([] : List (S33)).length + y163.length < 2513169434916
                  · rw [if_pos c38] at H
                    have LMc38 := Aside0.mk c38
                    clear c38
                    obtain ⟨y168, hy168⟩ : ∃ y_ : List (S33), y_ = (([] : List (S33)) ++ y163) := ⟨_, rfl⟩
                    replace H : (if 0 ≤ x4_1 then (if x4_1 < (l0.length : Int) then (if y168.length < 2513169434916 then ((some (y168 ++ [(⟨(rd_T33 l0 x4_1).f0, (rd_T33 l0 x4_1).f1, (rd_T33 l0 x4_1).f2, (rd_T33 l0 x4_1).f3, (rd_T33 l0 x4_1).f4⟩ : S33)] : List (S33))).bind fun y172 => ((some (x3_1.drop (x5_2 : Int).toNat : List (S33))).bind fun y175 => (if y172.length + y175.length < 2513169434916 then (paronymref29_Sort.l0 k2 l0 (y172 ++ y175) (wrap64 (x4_1 + 1))) else (none)))) else (none)) else (none)) else (none)) = some r := by first | (rw [hy168]; with_reducible exact H) | (have H2_ := (Option.bind_some _ _).symm.trans H; rw [hy168]; with_reducible exact H2_) | (have H2_ := (Option.bind_some _ _).symm.trans H; with_reducible exact H2_) | with_reducible exact H | (rw [hy168]; exact H) | exact H
                    have Ny168 := Aside0.mk hy168
                    clear hy168
                    by_cases c39 : 0 ≤ x4_1
                    · rw [if_pos c39] at H
                      have c39b0 : decide (0 ≤ x4_1) = true := decide_eq_true c39
                      clear c39
                      by_cases c40 : x4_1 < (l0.length : Int)
                      · rw [if_pos c40] at H
                        have c40b0 : decide (x4_1 < (l0.length : Int)) = true := decide_eq_true c40
                        clear c40
                        by_cases c41 : y168.length < 2513169434916
                        · rw [if_pos c41] at H
                          have LMc41 := Aside0.mk c41
                          clear c41
                          obtain ⟨y172, hy172⟩ : ∃ y_ : List (S33), y_ = (y168 ++ [(⟨(rd_T33 l0 x4_1).f0, (rd_T33 l0 x4_1).f1, (rd_T33 l0 x4_1).f2, (rd_T33 l0 x4_1).f3, (rd_T33 l0 x4_1).f4⟩ : S33)]) := ⟨_, rfl⟩
                          replace H : ((some (x3_1.drop (x5_2 : Int).toNat : List (S33))).bind fun y175 => (if y172.length + y175.length < 2513169434916 then (paronymref29_Sort.l0 k2 l0 (y172 ++ y175) (wrap64 (x4_1 + 1))) else (none))) = some r := by first | (rw [hy172]; with_reducible exact H) | (have H2_ := (Option.bind_some _ _).symm.trans H; rw [hy172]; with_reducible exact H2_) | (have H2_ := (Option.bind_some _ _).symm.trans H; with_reducible exact H2_) | with_reducible exact H | (rw [hy172]; exact H) | exact H
                          have Ny172 := Aside0.mk hy172
                          clear hy172
                          have c42b0 := eq_true (of_decide_eq_true (by first | (with_reducible assumption) | assumption) : 0 ≤ x5_2)
                          have c43b0 := eq_true (of_decide_eq_true (by first | (with_reducible assumption) | assumption) : x5_2 ≤ (x3_1.length : Int))
                          obtain ⟨y175, hy175⟩ : ∃ y_ : List (S33), y_ = (x3_1.drop (x5_2 : Int).toNat) := ⟨_, rfl⟩
                          replace H : (if y172.length + y175.length < 2513169434916 then (paronymref29_Sort.l0 k2 l0 (y172 ++ y175) (wrap64 (x4_1 + 1))) else (none)) = some r := by first | (rw [hy175]; with_reducible exact H) | (have H2_ := (Option.bind_some _ _).symm.trans H; rw [hy175]; with_reducible exact H2_) | (have H2_ := (Option.bind_some _ _).symm.trans H; with_reducible exact H2_) | with_reducible exact H | (rw [hy175]; exact H) | exact H
                          have Ny175 := Aside0.mk hy175
                          clear hy175
                          by_cases c44 : y172.length + y175.length < 2513169434916
                          · rw [if_pos c44] at H
                            have LMc44 := Aside0.mk c44
                            clear c44
                            obtain ⟨y180, hy180⟩ : ∃ y_ : List (S33), y_ = (y172 ++ y175) := ⟨_, rfl⟩
                            replace H : (paronymref29_Sort.l0 k2 l0 y180 (wrap64 (x4_1 + 1))) = some r := by first | (rw [hy180]; with_reducible exact H) | (have H2_ := (Option.bind_some _ _).symm.trans H; rw [hy180]; with_reducible exact H2_) | (have H2_ := (Option.bind_some _ _).symm.trans H; with_reducible exact H2_) | with_reducible exact H | (rw [hy180]; exact H) | exact H
                            have Ny180 := Aside0.mk hy180
                            clear hy180
                            have H' := Aside0.mk H
                            clear H
                            try go_wp2
                            have n0_ := Aside0.mk (Kd.V_drew HO_0.out)
                            have n1_ := Aside0.mk (Kd.N_drew HO_3.out)
                            have n2_ := Aside0.mk (below_drew1 HB.out)
                            clear HO_0
                            clear HO_3
                            clear HB
                            have HO_0 := n0_
                            have HO_3 := n1_
                            have HB := n2_
                            clear n0_ n1_ n2_
                            refine start_ (n := 15) (S := fun w' => True) (ds := []) #[false, false, false, false, false, false, false, false, false, false, false, false, false, false, false] (by kernel_rfl) rfl rfl trivial (fun hHeld => ?_); refine with_tabW paronymref29_Sort.tab6 paronymref29_Sort.bits6 (fun HT_ HW_ => ?_)
                            generalize wr.drew = w45 at HO_0 HO_3 HB hHeld ⊢
                            refine pure_ (i := 0) (N := some 15) (v := ?_) (a' := ?_) #[true, false, false, false, false, false, false, false, false, false, false, false, false, false, false] rfl rfl (any_of HT_.out (by kernel_rfl)) (fun _ _ _ h => h) (Or.inl ⟨by rfl, ?_⟩) ?_ ?_
                            rotate_left
                            · intro w'
                              go_simp
                              with_reducible rfl
                            rotate_left
                            · simp only [Act.put, List.setIfInBounds_toArray, List.set_cons_zero, List.set_cons_succ, i64_w, i32_w]
                              rfl
                            refine pure_ (i := 1) (N := some 16) (v := ?_) (a' := ?_) #[true, true, false, false, false, false, false, false, false, false, false, false, false, false, false] rfl rfl (any_of HT_.out (by kernel_rfl)) (fun _ _ _ h => h) (Or.inl ⟨by rfl, ?_⟩) ?_ ?_
                            rotate_left
                            · intro w'
                              go_simp
                              with_reducible rfl
                            rotate_left
                            · simp only [Act.put, List.setIfInBounds_toArray, List.set_cons_zero, List.set_cons_succ, i64_w, i32_w]
                              rfl
                            refine pure_ (i := 2) (N := some 17) (v := ?_) (a' := ?_) #[true, true, true, false, false, false, false, false, false, false, false, false, false, false, false] rfl rfl (any_of HT_.out (by kernel_rfl)) (fun _ _ _ h => h) (Or.inl ⟨by rfl, ?_⟩) ?_ ?_
                            rotate_left
                            · intro w'
                              go_simp
                              with_reducible rfl
                            rotate_left
                            · simp only [Act.put, List.setIfInBounds_toArray, List.set_cons_zero, List.set_cons_succ, i64_w, i32_w]
                              rfl
                            refine pure_ (i := 3) (N := some 18) (v := undef) (a' := ?_) #[true, true, true, true, false, false, false, false, false, false, false, false, false, false, false] rfl rfl (any_of HT_.out (by kernel_rfl)) (fun _ _ _ h => h) (Or.inr ⟨by rfl, rfl⟩) ?_ ?_
                            rotate_left
                            · simp only [Act.put, List.setIfInBounds_toArray, List.set_cons_zero, List.set_cons_succ, i64_w, i32_w]
                              rfl
                            refine pure_ (i := 4) (N := some 19) (v := undef) (a' := ?_) #[true, true, true, true, true, false, false, false, false, false, false, false, false, false, false] rfl rfl (any_of HT_.out (by kernel_rfl)) (fun _ _ _ h => h) (Or.inr ⟨by rfl, rfl⟩) ?_ ?_
                            rotate_left
                            · simp only [Act.put, List.setIfInBounds_toArray, List.set_cons_zero, List.set_cons_succ, i64_w, i32_w]
                              rfl
                            refine pure_ (i := 5) (N := some 20) (v := undef) (a' := ?_) #[true, true, true, true, true, true, false, false, false, false, false, false, false, false, false] rfl rfl (any_of HT_.out (by kernel_rfl)) (fun _ _ _ h => h) (Or.inr ⟨by rfl, rfl⟩) ?_ ?_
                            rotate_left
                            · simp only [Act.put, List.setIfInBounds_toArray, List.set_cons_zero, List.set_cons_succ, i64_w, i32_w]
                              rfl
                            refine pure_ (i := 6) (N := some 21) (v := undef) (a' := ?_) #[true, true, true, true, true, true, true, false, false, false, false, false, false, false, false] rfl rfl (any_of HT_.out (by kernel_rfl)) (fun _ _ _ h => h) (Or.inr ⟨by rfl, rfl⟩) ?_ ?_
                            rotate_left
                            · simp only [Act.put, List.setIfInBounds_toArray, List.set_cons_zero, List.set_cons_succ, i64_w, i32_w]
                              rfl
                            refine pure_ (i := 7) (N := some 22) (v := undef) (a' := ?_) #[true, true, true, true, true, true, true, true, false, false, false, false, false, false, false] rfl rfl (any_of HT_.out (by kernel_rfl)) (fun _ _ _ h => h) (Or.inr ⟨by rfl, rfl⟩) ?_ ?_
                            rotate_left
                            · simp only [Act.put, List.setIfInBounds_toArray, List.set_cons_zero, List.set_cons_succ, i64_w, i32_w]
                              rfl
                            refine pure_ (i := 8) (N := some 23) (v := undef) (a' := ?_) #[true, true, true, true, true, true, true, true, true, false, false, false, false, false, false] rfl rfl (any_of HT_.out (by kernel_rfl)) (fun _ _ _ h => h) (Or.inr ⟨by rfl, rfl⟩) ?_ ?_
                            rotate_left
                            · simp only [Act.put, List.setIfInBounds_toArray, List.set_cons_zero, List.set_cons_succ, i64_w, i32_w]
                              rfl
                            refine pure_ (i := 9) (N := some 24) (v := undef) (a' := ?_) #[true, true, true, true, true, true, true, true, true, true, false, false, false, false, false] rfl rfl (any_of HT_.out (by kernel_rfl)) (fun _ _ _ h => h) (Or.inr ⟨by rfl, rfl⟩) ?_ ?_
                            rotate_left
                            · simp only [Act.put, List.setIfInBounds_toArray, List.set_cons_zero, List.set_cons_succ, i64_w, i32_w]
                              rfl
                            refine pure_ (i := 10) (N := some 25) (v := undef) (a' := ?_) #[true, true, true, true, true, true, true, true, true, true, true, false, false, false, false] rfl rfl (any_of HT_.out (by kernel_rfl)) (fun _ _ _ h => h) (Or.inr ⟨by rfl, rfl⟩) ?_ ?_
                            rotate_left
                            · simp only [Act.put, List.setIfInBounds_toArray, List.set_cons_zero, List.set_cons_succ, i64_w, i32_w]
                              rfl
                            refine pure_ (i := 11) (N := some 26) (v := undef) (a' := ?_) #[true, true, true, true, true, true, true, true, true, true, true, true, false, false, false] rfl rfl (any_of HT_.out (by kernel_rfl)) (fun _ _ _ h => h) (Or.inr ⟨by rfl, rfl⟩) ?_ ?_
                            rotate_left
                            · simp only [Act.put, List.setIfInBounds_toArray, List.set_cons_zero, List.set_cons_succ, i64_w, i32_w]
                              rfl
                            refine pure_ (i := 12) (N := some 27) (v := undef) (a' := ?_) #[true, true, true, true, true, true, true, true, true, true, true, true, true, false, false] rfl rfl (any_of HT_.out (by kernel_rfl)) (fun _ _ _ h => h) (Or.inr ⟨by rfl, rfl⟩) ?_ ?_
                            rotate_left
                            · simp only [Act.put, List.setIfInBounds_toArray, List.set_cons_zero, List.set_cons_succ, i64_w, i32_w]
                              rfl
                            refine pure_ (i := 13) (N := some 28) (v := undef) (a' := ?_) #[true, true, true, true, true, true, true, true, true, true, true, true, true, true, false] rfl rfl (any_of HT_.out (by kernel_rfl)) (fun _ _ _ h => h) (Or.inr ⟨by rfl, rfl⟩) ?_ ?_
                            rotate_left
                            · simp only [Act.put, List.setIfInBounds_toArray, List.set_cons_zero, List.set_cons_succ, i64_w, i32_w]
                              rfl
                            refine pure_ (i := 14) (N := some 29) (v := ?_) (a' := ?_) #[true, true, true, true, true, true, true, true, true, true, true, true, true, true, true] rfl rfl (any_of HT_.out (by kernel_rfl)) (fun _ _ _ h => h) (Or.inl ⟨by rfl, ?_⟩) ?_ ?_
                            rotate_left
                            · intro w'
                              go_simp
                              with_reducible rfl
                            rotate_left
                            · simp only [Act.put, List.setIfInBounds_toArray, List.set_cons_zero, List.set_cons_succ, i64_w, i32_w]
                              rfl
                            refine done_ (done_of HT_.out (by kernel_rfl)) ?_
                            try go_wp2
                            have n0_ := Aside0.mk (Kd.V_drew HO_0.out)
                            have n1_ := Aside0.mk (Kd.N_drew HO_3.out)
                            have n2_ := Aside0.mk (below_drew1 HB.out)
                            clear HO_0
                            clear HO_3
                            clear HB
                            have HO_0 := n0_
                            have HO_3 := n1_
                            have HB := n2_
                            clear n0_ n1_ n2_
                            refine start_ (n := 15) (S := fun w' => True) (ds := []) #[false, false, false, false, false, false, false, false, false, false, false, false, false, false, false] (by kernel_rfl) rfl rfl trivial (fun hHeld => ?_); refine with_tabW paronymref29_Sort.tab8 paronymref29_Sort.bits8 (fun HT_ HW_ => ?_)
                            generalize w45.drew = w46 at HO_0 HO_3 HB hHeld ⊢
                            refine pure_ (i := 0) (N := some 32) (v := ?_) (a' := ?_) #[true, false, false, false, false, false, false, false, false, false, false, false, false, false, false] rfl rfl (any_of HT_.out (by kernel_rfl)) (fun _ _ _ h => h) (Or.inl ⟨by rfl, ?_⟩) ?_ ?_
                            rotate_left
                            · intro w'
                              go_simp
                              with_reducible rfl
                            rotate_left
                            · simp only [Act.put, List.setIfInBounds_toArray, List.set_cons_zero, List.set_cons_succ, i64_w, i32_w]
                              rfl
                            refine pure_ (i := 1) (N := some 33) (v := ?_) (a' := ?_) #[true, true, false, false, false, false, false, false, false, false, false, false, false, false, false] rfl rfl (any_of HT_.out (by kernel_rfl)) (fun _ _ _ h => h) (Or.inl ⟨by rfl, ?_⟩) ?_ ?_
                            rotate_left
                            · intro w'
                              go_simp
                              with_reducible rfl
                            rotate_left
                            · simp only [Act.put, List.setIfInBounds_toArray, List.set_cons_zero, List.set_cons_succ, i64_w, i32_w]
                              rfl
                            refine pure_ (i := 2) (N := some 34) (v := ?_) (a' := ?_) #[true, true, true, false, false, false, false, false, false, false, false, false, false, false, false] rfl rfl (any_of HT_.out (by kernel_rfl)) (fun _ _ _ h => h) (Or.inl ⟨by rfl, ?_⟩) ?_ ?_
                            rotate_left
                            · intro w'
                              go_simp
                              with_reducible rfl
                            rotate_left
                            · simp only [Act.put, List.setIfInBounds_toArray, List.set_cons_zero, List.set_cons_succ, i64_w, i32_w]
                              rfl
                            refine pure_ (i := 3) (N := some 35) (v := undef) (a' := ?_) #[true, true, true, true, false, false, false, false, false, false, false, false, false, false, false] rfl rfl (any_of HT_.out (by kernel_rfl)) (fun _ _ _ h => h) (Or.inr ⟨by rfl, rfl⟩) ?_ ?_
                            rotate_left
                            · simp only [Act.put, List.setIfInBounds_toArray, List.set_cons_zero, List.set_cons_succ, i64_w, i32_w]
                              rfl
                            refine pure_ (i := 4) (N := some 36) (v := undef) (a' := ?_) #[true, true, true, true, true, false, false, false, false, false, false, false, false, false, false] rfl rfl (any_of HT_.out (by kernel_rfl)) (fun _ _ _ h => h) (Or.inr ⟨by rfl, rfl⟩) ?_ ?_
                            rotate_left
                            · simp only [Act.put, List.setIfInBounds_toArray, List.set_cons_zero, List.set_cons_succ, i64_w, i32_w]
                              rfl
                            refine pure_ (i := 5) (N := some 37) (v := undef) (a' := ?_) #[true, true, true, true, true, true, false, false, false, false, false, false, false, false, false] rfl rfl (any_of HT_.out (by kernel_rfl)) (fun _ _ _ h => h) (Or.inr ⟨by rfl, rfl⟩) ?_ ?_
                            rotate_left
                            · simp only [Act.put, List.setIfInBounds_toArray, List.set_cons_zero, List.set_cons_succ, i64_w, i32_w]
                              rfl
                            refine pure_ (i := 6) (N := some 38) (v := undef) (a' := ?_) #[true, true, true, true, true, true, true, false, false, false, false, false, false, false, false] rfl rfl (any_of HT_.out (by kernel_rfl)) (fun _ _ _ h => h) (Or.inr ⟨by rfl, rfl⟩) ?_ ?_
                            rotate_left
                            · simp only [Act.put, List.setIfInBounds_toArray, List.set_cons_zero, List.set_cons_succ, i64_w, i32_w]
                              rfl
                            refine pure_ (i := 7) (N := some 39) (v := undef) (a' := ?_) #[true, true, true, true, true, true, true, true, false, false, false, false, false, false, false] rfl rfl (any_of HT_.out (by kernel_rfl)) (fun _ _ _ h => h) (Or.inr ⟨by rfl, rfl⟩) ?_ ?_
                            rotate_left
                            · simp only [Act.put, List.setIfInBounds_toArray, List.set_cons_zero, List.set_cons_succ, i64_w, i32_w]
                              rfl
                            refine pure_ (i := 8) (N := some 40) (v := undef) (a' := ?_) #[true, true, true, true, true, true, true, true, true, false, false, false, false, false, false] rfl rfl (any_of HT_.out (by kernel_rfl)) (fun _ _ _ h => h) (Or.inr ⟨by rfl, rfl⟩) ?_ ?_
                            rotate_left
                            · simp only [Act.put, List.setIfInBounds_toArray, List.set_cons_zero, List.set_cons_succ, i64_w, i32_w]
                              rfl
                            refine pure_ (i := 9) (N := some 41) (v := undef) (a' := ?_) #[true, true, true, true, true, true, true, true, true, true, false, false, false, false, false] rfl rfl (any_of HT_.out (by kernel_rfl)) (fun _ _ _ h => h) (Or.inr ⟨by rfl, rfl⟩) ?_ ?_
                            rotate_left
                            · simp only [Act.put, List.setIfInBounds_toArray, List.set_cons_zero, List.set_cons_succ, i64_w, i32_w]
                              rfl
                            refine pure_ (i := 10) (N := some 42) (v := undef) (a' := ?_) #[true, true, true, true, true, true, true, true, true, true, true, false, false, false, false] rfl rfl (any_of HT_.out (by kernel_rfl)) (fun _ _ _ h => h) (Or.inr ⟨by rfl, rfl⟩) ?_ ?_
                            rotate_left
                            · simp only [Act.put, List.setIfInBounds_toArray, List.set_cons_zero, List.set_cons_succ, i64_w, i32_w]
                              rfl
                            refine pure_ (i := 11) (N := some 43) (v := undef) (a' := ?_) #[true, true, true, true, true, true, true, true, true, true, true, true, false, false, false] rfl rfl (any_of HT_.out (by kernel_rfl)) (fun _ _ _ h => h) (Or.inr ⟨by rfl, rfl⟩) ?_ ?_
                            rotate_left
                            · simp only [Act.put, List.setIfInBounds_toArray, List.set_cons_zero, List.set_cons_succ, i64_w, i32_w]
                              rfl
                            refine pure_ (i := 12) (N := some 44) (v := undef) (a' := ?_) #[true, true, true, true, true, true, true, true, true, true, true, true, true, false, false] rfl rfl (any_of HT_.out (by kernel_rfl)) (fun _ _ _ h => h) (Or.inr ⟨by rfl, rfl⟩) ?_ ?_
                            rotate_left
                            · simp only [Act.put, List.setIfInBounds_toArray, List.set_cons_zero, List.set_cons_succ, i64_w, i32_w]
                              rfl
                            refine pure_ (i := 13) (N := some 45) (v := undef) (a' := ?_) #[true, true, true, true, true, true, true, true, true, true, true, true, true, true, false] rfl rfl (any_of HT_.out (by kernel_rfl)) (fun _ _ _ h => h) (Or.inr ⟨by rfl, rfl⟩) ?_ ?_
                            rotate_left
                            · simp only [Act.put, List.setIfInBounds_toArray, List.set_cons_zero, List.set_cons_succ, i64_w, i32_w]
                              rfl
                            refine pure_ (i := 14) (N := some 46) (v := ?_) (a' := ?_) #[true, true, true, true, true, true, true, true, true, true, true, true, true, true, true] rfl rfl (any_of HT_.out (by kernel_rfl)) (fun _ _ _ h => h) (Or.inl ⟨by rfl, ?_⟩) ?_ ?_
                            rotate_left
                            · intro w'
                              go_simp
                              with_reducible rfl
                            rotate_left
                            · simp only [Act.put, List.setIfInBounds_toArray, List.set_cons_zero, List.set_cons_succ, i64_w, i32_w]
                              rfl
                            refine done_ (done_of HT_.out (by kernel_rfl)) ?_
                            have q47 : (x5_2 : Int) ≤ ((x3_1.length : Int) : Int) := of_decide_eq_true (by first | (with_reducible assumption) | assumption)
                            obtain ⟨i047, hi047, _, hsz47, _⟩ := info_parts info33
                            have hroom47 : x3_1.length ≤ co3 := (Kd.N_reads' HO_3.out).2.1
                            have hC47 : Kd.F k33 _ _ Ao3 x3_1.length x3_1 := (Kd.V_at (base := w.heap.size) (Kd.N_V HO_3.out)).2.2
                            have hcut47 := cut_to (P := Try.prog) 35 33 .i64 Try.underlying35 hi047 Ao3 x3_1.length co3 x5_2 (of_decide_eq_true (by first | (with_reducible assumption) | assumption)) q47 hroom47
                            have hr47 := Kd.F_take (m := (x5_2 : Int).toNat) hC47 (by omega)
                            have hy47 : y163.length = (x5_2 : Int).toNat := (by rw [Ny163.out, List.length_take]; omega)
                            rw [← Ny163.out] at hr47
                            rw [← hy47] at hcut47
                            have HO167 := Aside0.mk (show Kd.V k33 33 _ w.heap.size _ (.slice Ao3 y163.length co3) y163 from Kd.V_mk (by omega) hr47)
                            have HC167 := Aside0.mk (show y163.length ≤ co3 from by omega)
                            clear hr47 hC47 hroom47 hi047 hsz47
                            have KY47 := Aside0.mk hy47
                            clear hy47
                            replace q47 := eq_true q47
                            try go_wp2_with (first | ((with_reducible refine gate_builtin (b := .append) (xs := #[.tmp 47, .tmp 50]) rfl ?_); at_builtin; refine Kd.N_append_rows k33 (w0 := w) w.heap.size rfl (.tmp 47) (.tmp 50) 35 33 (.agg #[(.slice none 0 0), (.int .i64 0), (.int .i64 0), (.bool false), (.int .i64 0)]) 56 rfl Try.underlying35 info33 rfl (by decide) (by omega) (.slice none 0 0) ([] : List (S33)) y163 _ _ _ (fun k_ => (P0_ k_ ∨ w.heap.size ≤ k_)) (fun k_ => ((fun k_ => (P0_ k_ ∨ w.heap.size ≤ k_))) k_ ∧ some k_ ≠ (.slice none 0 0 : Value).ownBlock) rfl rfl ?aO ?aR (fun _ hk => hk) ?aF ?aB ?aS ?aL ?_; (case aR => exact (by skip; exact Kd.V_F (Kd.V_mono (ok' := (fun k_ => ((fun k_ => (P0_ k_ ∨ w.heap.size ≤ k_))) k_ ∧ some k_ ≠ (.slice none 0 0 : Value).ownBlock)) (HO167.out) (fun k_ hk => ⟨hk, (by simp [Value.ownBlock])⟩)))); (case aB => exact (by repeat (first | (with_reducible first | exact HB.out | apply below_alloc | apply pw_below_drewN | apply below_drew1) | exact HB.out))); (case aF => exact (fun k_ hk => (.inr (Nat.le_trans (below_size (by repeat (first | (with_reducible first | exact HB.out | apply below_alloc | apply pw_below_drewN | apply below_drew1) | exact HB.out))) hk)))); (case aO => exact ((Kd.N_nil _ _ _ _ (fun k_ => (P0_ k_ ∨ w.heap.size ≤ k_))))); (case aS => exact (below_size (by repeat (first | (with_reducible first | exact HB.out | apply below_alloc | apply pw_below_drewN | apply below_drew1) | exact HB.out)))); (case aL => have := LMc38.out; omega); intro v169 w48 ho hb hg hat; rw [← Ny168.out] at ho; have n0_ := Aside0.mk (Kd.V_afterv (Kd.V_apart_nil (by (with_reducible repeat (first | apply Kd.V_alloc | apply Kd.V_drewN | apply Kd.V_drew)); exact HO_0.out)) hg hat); have n1_ := Aside0.mk (Kd.N_afterv (Kd.N_apart_nil (by (with_reducible repeat (first | apply Kd.N_alloc | apply Kd.N_drewN | apply Kd.N_drew)); exact HO_3.out)) hg hat); have n2_ := Aside0.mk (Kd.V_afterv (Kd.V_apart_nil (by (with_reducible repeat (first | apply Kd.V_alloc | apply Kd.V_drewN | apply Kd.V_drew)); exact HO167.out)) hg hat); have n3_ := Aside0.mk (hb); have n4_ := Aside0.mk (ho); clear HO_0; clear HO_3; clear HO167; clear HB; have HO_0 := n0_; have HO_3 := n1_; have HO167 := n2_; have HB := n3_; have HO170 := n4_; clear n0_ n1_ n2_ n3_ n4_; clear ho hb hg hat; have p171 : 0 ≤ (x4_1 : Int) := of_decide_eq_true (by first | (with_reducible assumption) | assumption); have q171 : x4_1 < (l0.length : Int) := of_decide_eq_true (by first | (with_reducible assumption) | assumption); obtain ⟨ad171, A171_0, c171_0, e171, hx171_0, hx171_1, hx171_2, hx171_3, hx171_4, hl171_0, hi171_0⟩ := at_T33 (Kd.V_reads' HO_0.out).2.2 x4_1 p171 q171; cases e171; obtain ⟨ce171, hce171, hMe171, hcc171⟩ := Kd.V_get HO_0.out z33 x4_1 p171 (by first | exact q171 | exact of_decide_eq_true (by first | (with_reducible assumption) | assumption) | (have e_ := (Kd.V_reads' HO_0.out).1; omega)); obtain ⟨ua171_0, uc171_0, rfl, ul171_0, ge171_0⟩ := k33_openF hMe171; have hv171_0 := hcc171 0 _ rfl; rw [Nat.add_zero] at hv171_0; replace hv171_0 := Option.some.inj (hv171_0.symm.trans hx171_0); injection hv171_0 with hva_ hvn_ hvc_; rw [hva_] at ge171_0; rw [hvc_] at ul171_0; have HL171_0 := Aside0.mk (show Kd.V (Kd.int .i64) 3 _ w.heap.size _ _ ((rd_T33 l0 x4_1).f0) from Kd.V_mk ul171_0 ge171_0); clear hva_ hvn_ hvc_ ge171_0 ul171_0; clear hcc171 hce171; have HR171_0 := Aside0.mk hi171_0; have HC171_0 := Aside0.mk hl171_0; clear hi171_0 hl171_0; replace p171 := eq_true p171; replace q171 := eq_true q171) | ((with_reducible refine gate_builtin (b := .append) (xs := #[.tmp 52, .tmp 57]) rfl ?_); at_builtin; refine Kd.N_append k33 (w0 := w) w.heap.size rfl (.tmp 52) (.tmp 57) 35 33 (.agg #[(.slice none 0 0), (.int .i64 0), (.int .i64 0), (.bool false), (.int .i64 0)]) 56 rfl Try.underlying35 info33 rfl (by decide) (by omega) v169 y168 (⟨(rd_T33 l0 x4_1).f0, (rd_T33 l0 x4_1).f1, (rd_T33 l0 x4_1).f2, (rd_T33 l0 x4_1).f3, (rd_T33 l0 x4_1).f4⟩ : S33) [.slice A171_0 ((rd_T33 l0 x4_1).f0).length c171_0, .int .i64 ((rd_T33 l0 x4_1).f1), .int .i64 ((rd_T33 l0 x4_1).f2), .bool ((rd_T33 l0 x4_1).f3), .int .i64 ((rd_T33 l0 x4_1).f4)] (fun k_ => (P0_ k_ ∨ w.heap.size ≤ k_)) (fun k_ => ((fun k_ => (P0_ k_ ∨ w.heap.size ≤ k_))) k_ ∧ some k_ ≠ (v169 : Value).ownBlock) rfl rfl ?aP (fun _ hk => hk) ?aF ?aO ?aB ?aS ?aL ?_; (case aP => exact (k33_mkF _ _ (⟨(rd_T33 l0 x4_1).f0, (rd_T33 l0 x4_1).f1, (rd_T33 l0 x4_1).f2, (rd_T33 l0 x4_1).f3, (rd_T33 l0 x4_1).f4⟩ : S33) (Kd.V_reads' (Kd.V_mono (ok' := (fun k_ => ((fun k_ => (P0_ k_ ∨ w.heap.size ≤ k_))) k_ ∧ some k_ ≠ (v169 : Value).ownBlock)) (HL171_0.out) (fun k_ hk => ⟨hk.1.1, hk.2⟩))).2.1 (Kd.V_F (Kd.V_mono (ok' := (fun k_ => ((fun k_ => (P0_ k_ ∨ w.heap.size ≤ k_))) k_ ∧ some k_ ≠ (v169 : Value).ownBlock)) (HL171_0.out) (fun k_ hk => ⟨hk.1.1, hk.2⟩))))); (case aB => exact (by repeat (first | (with_reducible first | exact HB.out | apply below_alloc | apply pw_below_drewN | apply below_drew1) | exact HB.out))); (case aF => exact (fun k_ hk => (.inr (Nat.le_trans (below_size (by repeat (first | (with_reducible first | exact HB.out | apply below_alloc | apply pw_below_drewN | apply below_drew1) | exact HB.out))) hk)))); (case aO => exact (by (with_reducible repeat (first | apply Kd.N_alloc | apply Kd.N_drewN | apply Kd.N_drew)); exact HO170.out)); (case aS => exact (below_size (by repeat (first | (with_reducible first | exact HB.out | apply below_alloc | apply pw_below_drewN | apply below_drew1) | exact HB.out)))); (case aL => have := LMc41.out; omega); intro v173 w49 ho hb hg hat; rw [← Ny172.out] at ho; have n0_ := Aside0.mk (Kd.V_afterv (ok := (fun k_ => (P0_ k_ ∨ w.heap.size ≤ k_) ∧ some k_ ≠ (.slice Ao3 x3_1.length co3 : Value).ownBlock)) (by (with_reducible repeat (first | apply Kd.V_alloc | apply Kd.V_drewN | apply Kd.V_drew)); exact HO_0.out) hg hat); have n1_ := Aside0.mk (Kd.N_afterv (ok := (fun k_ => (P0_ k_ ∨ w.heap.size ≤ k_))) (by (with_reducible repeat (first | apply Kd.N_alloc | apply Kd.N_drewN | apply Kd.N_drew)); exact HO_3.out) hg hat); have n2_ := Aside0.mk (Kd.V_afterv (ok := (fun k_ => (P0_ k_ ∨ w.heap.size ≤ k_))) (by (with_reducible repeat (first | apply Kd.V_alloc | apply Kd.V_drewN | apply Kd.V_drew)); exact HO167.out) hg hat); have n3_ := Aside0.mk (Kd.V_afterv (ok := (fun k_ => (P0_ k_ ∨ w.heap.size ≤ k_) ∧ some k_ ≠ (.slice Ao3 x3_1.length co3 : Value).ownBlock)) (by (with_reducible repeat (first | apply Kd.V_alloc | apply Kd.V_drewN | apply Kd.V_drew)); exact HL171_0.out) hg hat); have n4_ := Aside0.mk (hb); have n5_ := Aside0.mk (ho); clear HO_0; clear HO_3; clear HO167; clear HL171_0; clear HB; clear HO170; have HO_0 := n0_; have HO_3 := n1_; have HO167 := n2_; have HL171_0 := n3_; have HB := n4_; have HO174 := n5_; clear n0_ n1_ n2_ n3_ n4_ n5_; clear ho hb hg hat; have q50 : (x5_2 : Int) ≤ ((x3_1.length : Int) : Int) := of_decide_eq_true (by first | (with_reducible assumption) | assumption); obtain ⟨i050, hi050, _, hsz50, _⟩ := info_parts info33; have hroom50 : x3_1.length ≤ co3 := (Kd.N_reads' HO_3.out).2.1; have hC50 : Kd.F k33 _ _ Ao3 x3_1.length x3_1 := (Kd.V_at (base := w.heap.size) (Kd.N_V HO_3.out)).2.2; have q050 : (0 : Int) ≤ (x5_2 : Int) := of_decide_eq_true (by first | (with_reducible assumption) | assumption); have hcut50 := cut_from (P := Try.prog) 35 33 .i64 Try.underlying35 hi050 5 hsz50 Ao3 x3_1.length co3 x5_2 q050 q50; have hr50 := Kd.F_cut (m := (x5_2 : Int).toNat) (c := co3) hC50 (by omega) hroom50; obtain ⟨A50, hA50⟩ : ∃ A1, A1 = (if co3 = (x5_2 : Int).toNat then Ao3 else (Ao3 : Option Addr).map (·.add ((x5_2 : Int).toNat * 5))) := ⟨_, rfl⟩; obtain ⟨c50, hc50⟩ : ∃ c1, c1 = co3 - (x5_2 : Int).toNat := ⟨_, rfl⟩; have hy50 : y175.length = x3_1.length - (x5_2 : Int).toNat := (by rw [Ny175.out, List.length_drop] <;> omega); rw [show (x3_1).drop (x5_2 : Int).toNat = y175 from Ny175.out.symm] at hr50; replace hr50 : Kd.F k33 _ _ A50 y175.length y175 := (by rw [hA50]; exact hr50); rw [← hy50, ← hA50, ← hc50] at hcut50; have HO179 := Aside0.mk (show Kd.V k33 33 _ w.heap.size _ (.slice A50 y175.length c50) y175 from Kd.V_mk (by rw [hy50, hc50]; exact Nat.sub_le_sub_right hroom50 _) hr50); have HC179 := Aside0.mk (show y175.length ≤ c50 from by rw [hy50, hc50]; exact Nat.sub_le_sub_right hroom50 _); clear hr50 hC50 hroom50 hi050 hsz50 hc50; have KY50 := Aside0.mk hy50; have KA50 := Aside0.mk hA50; clear hy50 hA50; replace q50 := eq_true q50) | ((with_reducible refine gate_builtin (b := .append) (xs := #[.tmp 59, .tmp 62]) rfl ?_); at_builtin; refine Kd.N_append_rows k33 (w0 := w) w.heap.size rfl (.tmp 59) (.tmp 62) 35 33 (.agg #[(.slice none 0 0), (.int .i64 0), (.int .i64 0), (.bool false), (.int .i64 0)]) 56 rfl Try.underlying35 info33 rfl (by decide) (by omega) v173 y172 y175 _ _ _ (fun k_ => (P0_ k_ ∨ w.heap.size ≤ k_)) (fun k_ => ((fun k_ => (P0_ k_ ∨ w.heap.size ≤ k_))) k_ ∧ some k_ ≠ (v173 : Value).ownBlock) rfl rfl ?aO ?aR (fun _ hk => hk) ?aF ?aB ?aS ?aL ?_; (case aR => exact (by skip; exact Kd.V_F (Kd.V_mono (ok' := (fun k_ => ((fun k_ => (P0_ k_ ∨ w.heap.size ≤ k_))) k_ ∧ some k_ ≠ (v173 : Value).ownBlock)) (HO179.out) (fun k_ hk => ⟨hk.1, hk.2⟩)))); (case aB => exact (by repeat (first | (with_reducible first | exact HB.out | apply below_alloc | apply pw_below_drewN | apply below_drew1) | exact HB.out))); (case aF => exact (fun k_ hk => (.inr (Nat.le_trans (below_size (by repeat (first | (with_reducible first | exact HB.out | apply below_alloc | apply pw_below_drewN | apply below_drew1) | exact HB.out))) hk)))); (case aO => exact (by (with_reducible repeat (first | apply Kd.N_alloc | apply Kd.N_drewN | apply Kd.N_drew)); exact HO174.out)); (case aS => exact (below_size (by repeat (first | (with_reducible first | exact HB.out | apply below_alloc | apply pw_below_drewN | apply below_drew1) | exact HB.out)))); (case aL => have := LMc44.out; omega); intro v181 w51 ho hb hg hat; rw [← Ny180.out] at ho; have n0_ := Aside0.mk (Kd.V_afterv (ok := (fun k_ => (P0_ k_ ∨ w.heap.size ≤ k_) ∧ some k_ ≠ (.slice Ao3 x3_1.length co3 : Value).ownBlock)) (by (with_reducible repeat (first | apply Kd.V_alloc | apply Kd.V_drewN | apply Kd.V_drew)); exact HO_0.out) hg hat); have n1_ := Aside0.mk (Kd.N_afterv (ok := (fun k_ => (P0_ k_ ∨ w.heap.size ≤ k_))) (by (with_reducible repeat (first | apply Kd.N_alloc | apply Kd.N_drewN | apply Kd.N_drew)); exact HO_3.out) hg hat); have n2_ := Aside0.mk (Kd.V_afterv (ok := (fun k_ => (P0_ k_ ∨ w.heap.size ≤ k_))) (by (with_reducible repeat (first | apply Kd.V_alloc | apply Kd.V_drewN | apply Kd.V_drew)); exact HO167.out) hg hat); have n3_ := Aside0.mk (Kd.V_afterv (ok := (fun k_ => (P0_ k_ ∨ w.heap.size ≤ k_) ∧ some k_ ≠ (.slice Ao3 x3_1.length co3 : Value).ownBlock)) (by (with_reducible repeat (first | apply Kd.V_alloc | apply Kd.V_drewN | apply Kd.V_drew)); exact HL171_0.out) hg hat); have n4_ := Aside0.mk (Kd.V_afterv (ok := (fun k_ => (P0_ k_ ∨ w.heap.size ≤ k_))) (by (with_reducible repeat (first | apply Kd.V_alloc | apply Kd.V_drewN | apply Kd.V_drew)); exact HO179.out) hg hat); have n5_ := Aside0.mk (hb); have n6_ := Aside0.mk (ho); clear HO_0; clear HO_3; clear HO167; clear HL171_0; clear HO179; clear HB; clear HO174; have HO_0 := n0_; have HO_3 := n1_; have HO167 := n2_; have HL171_0 := n3_; have HO179 := n4_; have HB := n5_; have HO182 := n6_; clear n0_ n1_ n2_ n3_ n4_ n5_ n6_; clear ho hb hg hat))
                            go_roundg k2
                            case measure => have := HK1.out; have := HK2.out; omega
                            case rel => exact ⟨(y180), (wrap64 (x4_1 + 1)), (by first | rfl | (simp; done) | (simp [*]; done)), H', ⟨by have := HK1.out; have := HK2.out; omega⟩, ⟨by (with_reducible repeat (first | apply Kd.V_alloc | apply Kd.V_drewN | apply Kd.V_drew)); exact Kd.V_mono HO_0.out (fun _ hk => ⟨hk.1.1, hk.2⟩)⟩, ⟨by (with_reducible repeat (first | apply Kd.N_alloc | apply Kd.N_drewN | apply Kd.N_drew)); exact HO182.out⟩, ⟨by repeat (first | (with_reducible first | exact HB.out | apply below_alloc | apply pw_below_drewN | apply below_drew1) | exact HB.out)⟩⟩
                          · rw [if_neg c44] at H
                            exact absurd H (by simp)
                        · rw [if_neg c41] at H
                          exact absurd H (by simp)
                      · rw [if_neg c40] at H
                        exact absurd H (by simp)
                    · rw [if_neg c39] at H
                      exact absurd H (by simp)
                  · rw [if_neg c38] at H
                    exact absurd H (by simp)
                · rw [if_neg c37] at H
                  exact absurd H (by simp)
              · rw [if_neg c36] at H
                exact absurd H (by simp)
      · rw [if_neg c2] at H
        have c2b0 : decide (x4_1 < (l0.length : Int)) = false := decide_eq_false c2
        clear c2
        obtain rfl := Option.some.inj H
        go_wp2
        go_ret
        exact ⟨_, by first | rfl | (simp [errW_none, errW_some] <;> rfl) | (simp [*, errW_none, errW_some] <;> rfl), by (with_reducible repeat (first | apply Kd.N_alloc | apply Kd.N_drewN | apply Kd.N_drew)); exact HO_3.out, by repeat (first | (with_reducible first | exact HB.out | apply below_alloc | apply pw_below_drewN | apply below_drew1) | exact HB.out)⟩

end Go.Proofs.Ytgfmplhpoblleaa.PRank
