-- printed by the kit's print.py over several roots (printroots.sh), and two rows added (contradiction, where ways meet)
import Derived.Test.YtgfmplhpoblleaaPRankLx0
import Derived.Test.YtgfmplhpoblleaaPRankLx1
import Derived.Test.YtgfmplhpoblleaaRankD
import Derived.Test.YtgfmplhpoblleaaPRankx
namespace Go.Proofs.Ytgfmplhpoblleaa.PRankL
open Go.RowKit Go.Proofs.YtgfmplhpoblleaaW.PrintWords Go.Proofs.YtgfmplhpoblleaaW.PrintLast Go.Proofs.YtgfmplhpoblleaaW.PrintMore Go.Proofs.Ytgfmplhpoblleaa.RankD Go.Proofs.Ytgfmplhpoblleaa.PRank
attribute [local go_sem] max2_int min2_int max_two min_two max_three min_three max_four min_four   -- for this text's walks alone
set_option linter.unusedVariables false
set_option linter.unusedSimpArgs false

/-! ### paronymlaw29_RankSorts: function 7 -/
mutual
def paronymlaw29_RankSorts.j0 : Nat → List (S33) → Int → Bool → Option (Bool)
  | 0, _, _, _ => none
  | k + 1, x0, x1, x17 => if x17 = true then ((paronymlaw29_awake.f k).bind fun t214 => (some t214)) else ((paronymref29_Sort.f k x0).bind fun t215 => (if (x0.length : Int) > 0 then ((paronymref01_Rest.f x1 (x0.length : Int)).bind fun t218 => (paronymlaw29_RankSorts.j1 k x0 t215 ([] : List (S33)) t218)) else (paronymlaw29_RankSorts.j1 k x0 t215 ([] : List (S33)) 0)))
def paronymlaw29_RankSorts.j1 : Nat → List (S33) → List (S33) → List (S33) → Int → Option (Bool)
  | 0, _, _, _, _ => none
  | k + 1, x0, x5, x6, x7 => paronymlaw29_RankSorts.l0 k x0 x5 x6 x7 0
def paronymlaw29_RankSorts.l0 : Nat → List (S33) → List (S33) → List (S33) → Int → Int → Option (Bool)
  | 0, _, _, _, _, _ => none
  | k + 1, x0, x5, x6, x7, x8 => if x8 < (x0.length : Int) then (if (x0.length : Int) = 0 then (none) else (if 0 ≤ (Int.tmod (wrap64 (x8 + x7)) (x0.length : Int)) then (if (Int.tmod (wrap64 (x8 + x7)) (x0.length : Int)) < (x0.length : Int) then (if 0 ≤ x8 then ((some (([(⟨(rd_T33 x0 (Int.tmod (wrap64 (x8 + x7)) (x0.length : Int))).f0, (rd_T33 x0 (Int.tmod (wrap64 (x8 + x7)) (x0.length : Int))).f1, (rd_T33 x0 (Int.tmod (wrap64 (x8 + x7)) (x0.length : Int))).f2, (rd_T33 x0 (Int.tmod (wrap64 (x8 + x7)) (x0.length : Int))).f3, (rd_T33 x0 (Int.tmod (wrap64 (x8 + x7)) (x0.length : Int))).f4⟩ : S33), (⟨(rd_T33 x0 x8).f0, (rd_T33 x0 x8).f1, (rd_T33 x0 x8).f2, (rd_T33 x0 x8).f3, (rd_T33 x0 x8).f4⟩ : S33)] : List (S33)) : List (S33))).bind fun y221 => (if x6.length + y221.length < 2513169434916 then (paronymlaw29_RankSorts.l0 k x0 x5 (x6 ++ y221) x7 (wrap64 (x8 + 1))) else (none))) else (none)) else (none)) else (none))) else (paronymlaw29_RankSorts.l1 k x0 x5 x6 true 1)
def paronymlaw29_RankSorts.l1 : Nat → List (S33) → List (S33) → List (S33) → Bool → Int → Option (Bool)
  | 0, _, _, _, _, _ => none
  | k + 1, x0, x5, x6, x9, x10 => if x10 < (x0.length : Int) then (if x9 = true then (if 0 ≤ (wrap64 (x10 - 1)) then (if (wrap64 (x10 - 1)) < (x0.length : Int) then (if 0 ≤ x10 then ((paronymref29_Compare.f k ((rd_T33 x0 (wrap64 (x10 - 1))).f0) ((rd_T33 x0 (wrap64 (x10 - 1))).f1) ((rd_T33 x0 (wrap64 (x10 - 1))).f2) ((rd_T33 x0 (wrap64 (x10 - 1))).f3) ((rd_T33 x0 (wrap64 (x10 - 1))).f4) ((rd_T33 x0 x10).f0) ((rd_T33 x0 x10).f1) ((rd_T33 x0 x10).f2) ((rd_T33 x0 x10).f3) ((rd_T33 x0 x10).f4)).bind fun t229 => (paronymlaw29_RankSorts.l1 k x0 x5 x6 (decide (t229 < 0)) (wrap64 (x10 + 1)))) else (none)) else (none)) else (none)) else (paronymlaw29_RankSorts.l1 k x0 x5 x6 false (wrap64 (x10 + 1)))) else ((rank_Sort.f x0).bind fun t230 => ((paronymref28_Same.f k t230 x5).bind fun t233 => (if t233 = true then ((rank_Sort.f x6).bind fun t234 => ((paronymref28_Same.f k t234 x5).bind fun t237 => (if t237 = true then ((rank_Sorted.f k x0).bind fun t238 => (if (t238 == x9) = true then ((rank_Sorted.f k x5).bind fun t239 => (some t239)) else (some false))) else (some false)))) else (some false))))
end
def paronymlaw29_RankSorts.f (k : Nat) (l0 : List (S33)) (a1 : Int) : Option (Bool) := (paronymlaw29_awake.f k).bind fun t212 => (if t212 = true then ((paronymlaw29_small.f k l0).bind fun t213 => (paronymlaw29_RankSorts.j0 k l0 a1 (!t213))) else (paronymlaw29_RankSorts.j0 k l0 a1 true))
theorem paronymlaw29_RankSorts.mono_l : ∀ k, (∀ y0 y1 y2, LeO (paronymlaw29_RankSorts.j0 k y0 y1 y2) (paronymlaw29_RankSorts.j0 (k + 1) y0 y1 y2)) ∧ (∀ y0 y1 y2 y3, LeO (paronymlaw29_RankSorts.j1 k y0 y1 y2 y3) (paronymlaw29_RankSorts.j1 (k + 1) y0 y1 y2 y3)) ∧ (∀ y0 y1 y2 y3 y4, LeO (paronymlaw29_RankSorts.l0 k y0 y1 y2 y3 y4) (paronymlaw29_RankSorts.l0 (k + 1) y0 y1 y2 y3 y4)) ∧ (∀ y0 y1 y2 y3 y4, LeO (paronymlaw29_RankSorts.l1 k y0 y1 y2 y3 y4) (paronymlaw29_RankSorts.l1 (k + 1) y0 y1 y2 y3 y4))
  | 0 => ⟨fun _ _ _ r h => by simp [paronymlaw29_RankSorts.j0] at h, fun _ _ _ _ r h => by simp [paronymlaw29_RankSorts.j1] at h, fun _ _ _ _ _ r h => by simp [paronymlaw29_RankSorts.l0] at h, fun _ _ _ _ _ r h => by simp [paronymlaw29_RankSorts.l1] at h⟩
  | k + 1 => by
    obtain ⟨ih0, ih1, ih2, ih3⟩ := paronymlaw29_RankSorts.mono_l k
    refine ⟨?_, ?_, ?_, ?_⟩
    · intro y0 y1 y2
      unfold paronymlaw29_RankSorts.j0
      repeat' first
      | (with_reducible exact ih0 _ _ _)
      | (with_reducible exact ih1 _ _ _ _)
      | (with_reducible exact ih2 _ _ _ _ _)
      | (with_reducible exact ih3 _ _ _ _ _)
      | (with_reducible exact paronymlaw29_awake.mono _)
      | (with_reducible exact paronymlaw29_small.mono _ _)
      | (with_reducible exact paronymref28_Same.mono _ _ _)
      | (with_reducible exact paronymref29_Compare.mono _ _ _ _ _ _ _ _ _ _ _)
      | (with_reducible exact paronymref29_Sort.mono _ _)
      | (with_reducible exact rank_Sorted.mono _ _)
      | (with_reducible exact LeO.refl _)
      | (with_reducible exact LeO.none _)
      | (with_reducible refine LeO.ite ?_ ?_)
      | (with_reducible refine LeO.bind ?_ (fun _ => ?_))
      | exact ih0 _ _ _
      | exact ih1 _ _ _ _
      | exact ih2 _ _ _ _ _
      | exact ih3 _ _ _ _ _
      | exact paronymlaw29_awake.mono _
      | exact paronymlaw29_small.mono _ _
      | exact paronymref28_Same.mono _ _ _
      | exact paronymref29_Compare.mono _ _ _ _ _ _ _ _ _ _ _
      | exact paronymref29_Sort.mono _ _
      | exact rank_Sorted.mono _ _
      | exact LeO.none _
      | refine LeO.ite ?_ ?_
      | refine LeO.bind ?_ (fun _ => ?_)
    · intro y0 y1 y2 y3
      unfold paronymlaw29_RankSorts.j1
      repeat' first
      | (with_reducible exact ih0 _ _ _)
      | (with_reducible exact ih1 _ _ _ _)
      | (with_reducible exact ih2 _ _ _ _ _)
      | (with_reducible exact ih3 _ _ _ _ _)
      | (with_reducible exact paronymlaw29_awake.mono _)
      | (with_reducible exact paronymlaw29_small.mono _ _)
      | (with_reducible exact paronymref28_Same.mono _ _ _)
      | (with_reducible exact paronymref29_Compare.mono _ _ _ _ _ _ _ _ _ _ _)
      | (with_reducible exact paronymref29_Sort.mono _ _)
      | (with_reducible exact rank_Sorted.mono _ _)
      | (with_reducible exact LeO.refl _)
      | (with_reducible exact LeO.none _)
      | (with_reducible refine LeO.ite ?_ ?_)
      | (with_reducible refine LeO.bind ?_ (fun _ => ?_))
      | exact ih0 _ _ _
      | exact ih1 _ _ _ _
      | exact ih2 _ _ _ _ _
      | exact ih3 _ _ _ _ _
      | exact paronymlaw29_awake.mono _
      | exact paronymlaw29_small.mono _ _
      | exact paronymref28_Same.mono _ _ _
      | exact paronymref29_Compare.mono _ _ _ _ _ _ _ _ _ _ _
      | exact paronymref29_Sort.mono _ _
      | exact rank_Sorted.mono _ _
      | exact LeO.none _
      | refine LeO.ite ?_ ?_
      | refine LeO.bind ?_ (fun _ => ?_)
    · intro y0 y1 y2 y3 y4
      unfold paronymlaw29_RankSorts.l0
      repeat' first
      | (with_reducible exact ih0 _ _ _)
      | (with_reducible exact ih1 _ _ _ _)
      | (with_reducible exact ih2 _ _ _ _ _)
      | (with_reducible exact ih3 _ _ _ _ _)
      | (with_reducible exact paronymlaw29_awake.mono _)
      | (with_reducible exact paronymlaw29_small.mono _ _)
      | (with_reducible exact paronymref28_Same.mono _ _ _)
      | (with_reducible exact paronymref29_Compare.mono _ _ _ _ _ _ _ _ _ _ _)
      | (with_reducible exact paronymref29_Sort.mono _ _)
      | (with_reducible exact rank_Sorted.mono _ _)
      | (with_reducible exact LeO.refl _)
      | (with_reducible exact LeO.none _)
      | (with_reducible refine LeO.ite ?_ ?_)
      | (with_reducible refine LeO.bind ?_ (fun _ => ?_))
      | exact ih0 _ _ _
      | exact ih1 _ _ _ _
      | exact ih2 _ _ _ _ _
      | exact ih3 _ _ _ _ _
      | exact paronymlaw29_awake.mono _
      | exact paronymlaw29_small.mono _ _
      | exact paronymref28_Same.mono _ _ _
      | exact paronymref29_Compare.mono _ _ _ _ _ _ _ _ _ _ _
      | exact paronymref29_Sort.mono _ _
      | exact rank_Sorted.mono _ _
      | exact LeO.none _
      | refine LeO.ite ?_ ?_
      | refine LeO.bind ?_ (fun _ => ?_)
    · intro y0 y1 y2 y3 y4
      unfold paronymlaw29_RankSorts.l1
      repeat' first
      | (with_reducible exact ih0 _ _ _)
      | (with_reducible exact ih1 _ _ _ _)
      | (with_reducible exact ih2 _ _ _ _ _)
      | (with_reducible exact ih3 _ _ _ _ _)
      | (with_reducible exact paronymlaw29_awake.mono _)
      | (with_reducible exact paronymlaw29_small.mono _ _)
      | (with_reducible exact paronymref28_Same.mono _ _ _)
      | (with_reducible exact paronymref29_Compare.mono _ _ _ _ _ _ _ _ _ _ _)
      | (with_reducible exact paronymref29_Sort.mono _ _)
      | (with_reducible exact rank_Sorted.mono _ _)
      | (with_reducible exact LeO.refl _)
      | (with_reducible exact LeO.none _)
      | (with_reducible refine LeO.ite ?_ ?_)
      | (with_reducible refine LeO.bind ?_ (fun _ => ?_))
      | exact ih0 _ _ _
      | exact ih1 _ _ _ _
      | exact ih2 _ _ _ _ _
      | exact ih3 _ _ _ _ _
      | exact paronymlaw29_awake.mono _
      | exact paronymlaw29_small.mono _ _
      | exact paronymref28_Same.mono _ _ _
      | exact paronymref29_Compare.mono _ _ _ _ _ _ _ _ _ _ _
      | exact paronymref29_Sort.mono _ _
      | exact rank_Sorted.mono _ _
      | exact LeO.none _
      | refine LeO.ite ?_ ?_
      | refine LeO.bind ?_ (fun _ => ?_)
theorem paronymlaw29_RankSorts.mono : ∀ a0 a1 k, LeO (paronymlaw29_RankSorts.f k a0 a1) (paronymlaw29_RankSorts.f (k + 1) a0 a1) := by
  intro a0 a1 k
  obtain ⟨ih0, ih1, ih2, ih3⟩ := paronymlaw29_RankSorts.mono_l k
  unfold paronymlaw29_RankSorts.f
  repeat' first
      | (with_reducible exact ih0 _ _ _)
      | (with_reducible exact ih1 _ _ _ _)
      | (with_reducible exact ih2 _ _ _ _ _)
      | (with_reducible exact ih3 _ _ _ _ _)
      | (with_reducible exact paronymlaw29_awake.mono _)
      | (with_reducible exact paronymlaw29_small.mono _ _)
      | (with_reducible exact paronymref28_Same.mono _ _ _)
      | (with_reducible exact paronymref29_Compare.mono _ _ _ _ _ _ _ _ _ _ _)
      | (with_reducible exact paronymref29_Sort.mono _ _)
      | (with_reducible exact rank_Sorted.mono _ _)
      | (with_reducible exact LeO.refl _)
      | (with_reducible exact LeO.none _)
      | (with_reducible refine LeO.ite ?_ ?_)
      | (with_reducible refine LeO.bind ?_ (fun _ => ?_))
      | exact ih0 _ _ _
      | exact ih1 _ _ _ _
      | exact ih2 _ _ _ _ _
      | exact ih3 _ _ _ _ _
      | exact paronymlaw29_awake.mono _
      | exact paronymlaw29_small.mono _ _
      | exact paronymref28_Same.mono _ _ _
      | exact paronymref29_Compare.mono _ _ _ _ _ _ _ _ _ _ _
      | exact paronymref29_Sort.mono _ _
      | exact rank_Sorted.mono _ _
      | exact LeO.none _
      | refine LeO.ite ?_ ?_
      | refine LeO.bind ?_ (fun _ => ?_)
def paronymlaw29_RankSorts.T11 : Bool × List (List Nat × List Nat) := (true, [([], []), ([], []), ([], []), ([], []), ([2, 3], [2, 3]), ([], []), ([5], [5]), ([4, 6], [4, 6]), ([1, 7], [1, 7]), ([8], [8]), ([], []), ([], []), ([10, 11], [10, 11]), ([12], [12]), ([9, 13], [9, 13]), ([0, 14], [0, 14]), ([15, 15, 0, 1, 2, 3, 4, 5, 6, 7, 8, 9, 10, 11, 12, 13, 14, 15], [0, 15])])
def paronymlaw29_RankSorts.B11 : List Nat := [0, 0, 0, 0, 12, 0, 32, 124, 254, 510, 0, 0, 3072, 7168, 16382, 32767, 65535]
theorem paronymlaw29_RankSorts.tab11 : rtab .any (opsOf Try.f7 11) = paronymlaw29_RankSorts.T11 := by kernel_rfl
theorem paronymlaw29_RankSorts.bits11 : waitsOk paronymlaw29_RankSorts.T11.2 paronymlaw29_RankSorts.B11 = true := by kernel_rfl
def paronymlaw29_RankSorts.T16 : Bool × List (List Nat × List Nat) := (true, [([], []), ([0], [0]), ([1], [1]), ([1], [1]), ([3, 1], [1, 3]), ([2, 4, 1], [1, 2, 4]), ([5, 1], [1, 5]), ([1], [1]), ([1], [1]), ([7, 8, 1], [1, 7, 8]), ([9, 1], [1, 9]), ([6, 10, 1, 1], [1, 6, 10]), ([11, 1], [1, 11]), ([1, 12], [1, 12]), ([13, 11, 0, 1, 2, 3, 4, 5, 6, 7, 8, 9, 10, 11, 12, 13], [0, 13])])
def paronymlaw29_RankSorts.B16 : List Nat := [0, 1, 3, 3, 11, 31, 63, 3, 3, 387, 899, 2047, 4095, 8191, 16383]
theorem paronymlaw29_RankSorts.tab16 : rtab .any (opsOf Try.f7 16) = paronymlaw29_RankSorts.T16 := by kernel_rfl
theorem paronymlaw29_RankSorts.bits16 : waitsOk paronymlaw29_RankSorts.T16.2 paronymlaw29_RankSorts.B16 = true := by kernel_rfl
set_option maxHeartbeats 8000000 in
set_option maxRecDepth 100000 in
theorem paronymlaw29_RankSorts.calls (k : Nat) (P0_ : Nat → Prop) (A0 : Option Addr) (c0 : Nat) (l0 : List (S33)) (a1 : Int) (r : Bool) (w : World) (hs0 : Kd.V k33 33 w w.heap.size (fun k_ => P0_ k_) (.slice A0 l0.length c0) l0) (h : paronymlaw29_RankSorts.f k l0 a1 = some r) :
    Calls Try.prog 7 #[.slice A0 l0.length c0, .int .i64 a1] w fun e w' => e = .returned (.bool r) ∧ Below w.heap.size w w' := by
  have hu33 := Try.underlying33
  have HO0 := Aside0.mk (show Kd.V k33 33 w w.heap.size (fun k_ => (P0_ k_ ∨ w.heap.size ≤ k_)) (.slice A0 l0.length c0) l0 from Kd.V_mono hs0 (fun k_ hk => .inl hk))
  have HB := Aside0.mk (Below.refl w.heap.size w)
  have H : ((paronymlaw29_awake.f k).bind fun t212 => (if t212 = true then ((paronymlaw29_small.f k l0).bind fun t213 => (paronymlaw29_RankSorts.j0 k l0 a1 (!t213))) else (paronymlaw29_RankSorts.j0 k l0 a1 true))) = some r := h
  clear h
  have HC3 := Aside0.mk H
  clear H
  go_enter Try.func7, Try.ntmps7
  go_upto_region 1 with (fail)
  go_cut [17] (fun v17 wc => ∃ (kq : Nat) (x17_2 : Bool), v17 = .bool x17_2 ∧ Aside0 (paronymlaw29_RankSorts.j0 kq l0 a1 x17_2 = some r) ∧ Aside0 (kq ≤ k) ∧ Aside0 (Kd.V k33 33 wc w.heap.size (fun k_ => (P0_ k_ ∨ w.heap.size ≤ k_)) (.slice A0 l0.length c0) l0) ∧ Aside0 (Below w.heap.size w wc))
  case first =>
    have H := HC3.out
    clear HC3
    replace H := Option.bind_eq_some_iff.mp H
    obtain ⟨t212, A40, H⟩ := H
    replace H : (if t212 = true then ((paronymlaw29_small.f k l0).bind fun t213 => (paronymlaw29_RankSorts.j0 k l0 a1 (!t213))) else (paronymlaw29_RankSorts.j0 k l0 a1 true)) = some r := H
    have A4 := Aside0.mk A40
    clear A40
    by_cases c5 : t212 = true
    · subst c5
      have H1 : ((paronymlaw29_small.f k l0).bind fun t213 => (paronymlaw29_RankSorts.j0 k l0 a1 (!t213))) = some r := by rw [if_pos rfl] at H; exact H
      clear H
      have H := H1
      clear H1
      replace H := Option.bind_eq_some_iff.mp H
      obtain ⟨t213, A60, H⟩ := H
      replace H : (paronymlaw29_RankSorts.j0 k l0 a1 (!t213)) = some r := H
      have A6 := Aside0.mk A60
      clear A60
      have H' := Aside0.mk H
      clear H
      go_wp2_with (first | ((with_reducible refine gate_callee (f := 23) rfl ?_); refine goesL_ (some 11) rfl rfl Try.func23 (by kernel_rfl) rfl #[] rfl (by (try simp only [List.map_toArray, List.map_cons, List.map_nil]); first | done | rfl | (simp only [List.length_drop, List.length_take]; rfl)) ?_; (with_reducible refine (paronymlaw29_awake.calls k  true _ A4.out).mono ?_); rintro e w7 ⟨rfl, hb⟩; refine ⟨_, rfl, ?_⟩; have n0_ := Aside0.mk (Kd.V_below (by (with_reducible repeat (first | apply Kd.V_alloc | apply Kd.V_drewN | apply Kd.V_drew)); exact HO0.out) hb); have n1_ := Aside0.mk (below_step (by repeat (first | (with_reducible first | exact HB.out | apply below_alloc | apply pw_below_drewN | apply below_drew1) | exact HB.out)) hb); clear HO0; clear HB; have HO0 := n0_; have HB := n1_; clear n0_ n1_; (try clear hb); (try clear hb2); (try clear hk); (try clear hi)) | (go_at_call 24; (with_reducible refine (paronymlaw29_small.calls k _ _ l0 t213 _ ?side1 ?side2 A6.out).mono ?_); (case side1 => repeat (first | exact (Kd.V_reads' HO0.out).2.2 | (with_reducible refine Kd.C_alloc ?_ _) | (with_reducible refine Kd.C_drewN ?_ _) | (with_reducible refine Kd.C_drew ?_))); (case side2 => exact (Kd.V_reads' HO0.out).2.1); rintro e w' ⟨rfl, ⟨nd, rfl⟩⟩))
      go_meet
      case rel => exact ⟨_, (!t213), (by first | rfl | (simp; done) | (simp [*]; done)), H', ⟨by first | omega | exact Nat.le_refl _⟩, ⟨by (with_reducible repeat (first | apply Kd.V_alloc | apply Kd.V_drewN | apply Kd.V_drew)); exact HO0.out⟩, ⟨by repeat (first | (with_reducible first | exact HB.out | apply below_alloc | apply pw_below_drewN | apply below_drew1) | exact HB.out)⟩⟩
    · replace c5 := Bool.eq_false_iff.mpr c5
      subst c5
      have H1 : (paronymlaw29_RankSorts.j0 k l0 a1 true) = some r := by rw [if_neg (show ¬ (false = true) by decide)] at H; exact H
      clear H
      have H := H1
      clear H1
      have H' := Aside0.mk H
      clear H
      go_wp2_with (first | ((with_reducible refine gate_callee (f := 23) rfl ?_); refine goesL_ (some 11) rfl rfl Try.func23 (by kernel_rfl) rfl #[] rfl (by (try simp only [List.map_toArray, List.map_cons, List.map_nil]); first | done | rfl | (simp only [List.length_drop, List.length_take]; rfl)) ?_; (with_reducible refine (paronymlaw29_awake.calls k  false _ A4.out).mono ?_); rintro e w8 ⟨rfl, hb⟩; refine ⟨_, rfl, ?_⟩; have n0_ := Aside0.mk (Kd.V_below (by (with_reducible repeat (first | apply Kd.V_alloc | apply Kd.V_drewN | apply Kd.V_drew)); exact HO0.out) hb); have n1_ := Aside0.mk (below_step (by repeat (first | (with_reducible first | exact HB.out | apply below_alloc | apply pw_below_drewN | apply below_drew1) | exact HB.out)) hb); clear HO0; clear HB; have HO0 := n0_; have HB := n1_; clear n0_ n1_; (try clear hb); (try clear hb2); (try clear hk); (try clear hi)))
      go_meet
      case rel => exact ⟨_, (true), (by first | rfl | (simp; done) | (simp [*]; done)), H', ⟨by first | omega | exact Nat.le_refl _⟩, ⟨by (with_reducible repeat (first | apply Kd.V_alloc | apply Kd.V_drewN | apply Kd.V_drew)); exact HO0.out⟩, ⟨by repeat (first | (with_reducible first | exact HB.out | apply below_alloc | apply pw_below_drewN | apply below_drew1) | exact HB.out)⟩⟩
  case rest =>
    clear HC3
    try clear c2
    try clear p2
    try clear c5
    try clear c7
    obtain ⟨kq, x17_2, rfl, HA, HJ2, HO_0, HB⟩ := hcut
    cases kq with
    | zero => exact absurd HA.out (by simp [paronymlaw29_RankSorts.j0])
    | succ kj2 =>
      have H := HA.out
      clear HA
      simp only [paronymlaw29_RankSorts.j0] at H
      by_cases c9 : x17_2 = true
      · subst c9
        have H1 : ((paronymlaw29_awake.f kj2).bind fun t214 => (some t214)) = some r := by rw [if_pos rfl] at H; exact H
        clear H
        have H := H1
        clear H1
        replace H := Option.bind_eq_some_iff.mp H
        obtain ⟨t214, A100, H⟩ := H
        replace H : (some t214) = some r := H
        have A10 := Aside0.mk A100
        clear A100
        obtain rfl := Option.some.inj H
        go_wp2_with (first | ((with_reducible refine gate_callee (f := 23) rfl ?_); refine goesL_ (some 18) rfl rfl Try.func23 (by kernel_rfl) rfl #[] rfl (by (try simp only [List.map_toArray, List.map_cons, List.map_nil]); first | done | rfl | (simp only [List.length_drop, List.length_take]; rfl)) ?_; (with_reducible refine (paronymlaw29_awake.calls kj2  t214 _ A10.out).mono ?_); rintro e w11 ⟨rfl, hb⟩; refine ⟨_, rfl, ?_⟩; have n0_ := Aside0.mk (Kd.V_below (by (with_reducible repeat (first | apply Kd.V_alloc | apply Kd.V_drewN | apply Kd.V_drew)); exact HO_0.out) hb); have n1_ := Aside0.mk (below_step (by repeat (first | (with_reducible first | exact HB.out | apply below_alloc | apply pw_below_drewN | apply below_drew1) | exact HB.out)) hb); clear HO_0; clear HB; have HO_0 := n0_; have HB := n1_; clear n0_ n1_; (try clear hb); (try clear hb2); (try clear hk); (try clear hi)))
        go_ret
        exact ⟨by first | rfl | (simp [errW_none, errW_some] <;> rfl) | (simp [*, errW_none, errW_some] <;> rfl), by repeat (first | (with_reducible first | exact HB.out | apply below_alloc | apply pw_below_drewN | apply below_drew1) | exact HB.out)⟩
      · replace c9 := Bool.eq_false_iff.mpr c9
        subst c9
        have H1 : ((paronymref29_Sort.f kj2 l0).bind fun t215 => (if (l0.length : Int) > 0 then ((paronymref01_Rest.f a1 (l0.length : Int)).bind fun t218 => (paronymlaw29_RankSorts.j1 kj2 l0 t215 ([] : List (S33)) t218)) else (paronymlaw29_RankSorts.j1 kj2 l0 t215 ([] : List (S33)) 0))) = some r := by rw [if_neg (show ¬ (false = true) by decide)] at H; exact H
        clear H
        have H := H1
        clear H1
        replace H := Option.bind_eq_some_iff.mp H
        obtain ⟨t215, A120, H⟩ := H
        replace H : (if (l0.length : Int) > 0 then ((paronymref01_Rest.f a1 (l0.length : Int)).bind fun t218 => (paronymlaw29_RankSorts.j1 kj2 l0 t215 ([] : List (S33)) t218)) else (paronymlaw29_RankSorts.j1 kj2 l0 t215 ([] : List (S33)) 0)) = some r := H
        have A12 := Aside0.mk A120
        clear A120
        have HC13 := Aside0.mk H
        clear H
        go_upto_if 23 with (first | ((with_reducible refine gate_callee (f := 27) rfl ?_); refine goesL_ (some 20) rfl rfl Try.func27 (by kernel_rfl) rfl #[.slice A0 l0.length c0] rfl (by (try simp only [List.map_toArray, List.map_cons, List.map_nil]); first | done | rfl | (simp only [List.length_drop, List.length_take]; rfl)) ?_; (with_reducible refine (paronymref29_Sort.calls kj2 (fun k_ => (P0_ k_ ∨ w.heap.size ≤ k_)) _ _ l0 t215 _ ?side1 A12.out).mono ?_); (case side1 => exact HO_0.out); rintro e w14 ⟨v216, rfl, ho0, hb⟩; refine ⟨_, rfl, ?_⟩; have n0_ := Aside0.mk (Kd.V_elder' (by (with_reducible repeat (first | apply Kd.V_alloc | apply Kd.V_drewN | apply Kd.V_drew)); exact HO_0.out) (Kd.N_base ho0) hb); have n1_ := Aside0.mk (Kd.N_lower (Kd.N_mono (ok' := fun k_ => (P0_ k_ ∨ w.heap.size ≤ k_)) ho0 (fun k_ hk_ => Or.elim hk_ (fun hs_ => hs_) (fun hn_ => (.inr (Nat.le_trans (below_size (by repeat (first | (with_reducible first | exact HB.out | apply below_alloc | apply pw_below_drewN | apply below_drew1) | exact HB.out))) hn_))))) (below_size (by repeat (first | (with_reducible first | exact HB.out | apply below_alloc | apply pw_below_drewN | apply below_drew1) | exact HB.out)))); have n2_ := Aside0.mk (below_step (by repeat (first | (with_reducible first | exact HB.out | apply below_alloc | apply pw_below_drewN | apply below_drew1) | exact HB.out)) hb); clear HO_0; clear HB; have HO_0 := n0_; have HO217 := n1_; have HB := n2_; clear n0_ n1_ n2_; (try clear hb); (try clear hb2); (try clear hk); (try clear hi); (try clear ho0)))
        (try simp only [Act.put, List.setIfInBounds_toArray, List.set_cons_zero, List.set_cons_succ])
        go_cut [7] (fun v7 wc => ∃ (kq : Nat) (x7_12 : Int), v7 = .int .i64 x7_12 ∧ Aside0 (paronymlaw29_RankSorts.j1 kq l0 t215 ([] : List (S33)) x7_12 = some r) ∧ Aside0 (kq ≤ kj2) ∧ Aside0 (Kd.V k33 33 wc w.heap.size (fun k_ => (P0_ k_ ∨ w.heap.size ≤ k_) ∧ some k_ ≠ (v216 : Value).ownBlock ∧ some k_ ≠ ((.slice none 0 0) : Value).ownBlock) (.slice A0 l0.length c0) l0) ∧ Aside0 (Kd.N k33 33 wc w.heap.size (fun k_ => (P0_ k_ ∨ w.heap.size ≤ k_) ∧ some k_ ≠ ((.slice none 0 0) : Value).ownBlock) v216 t215) ∧ Aside0 (Kd.N k33 33 wc w.heap.size (fun k_ => (P0_ k_ ∨ w.heap.size ≤ k_) ∧ some k_ ≠ (v216 : Value).ownBlock) (.slice none 0 0) ([] : List (S33))) ∧ Aside0 (Below w.heap.size w wc))
        case first =>
          have H := HC13.out
          clear HC13
          by_cases c15 : (l0.length : Int) > 0
          · rw [if_pos c15] at H
            have c15b0 : decide (0 < (l0.length : Int)) = true := decide_eq_true c15
            have c15b1 : decide (0 < l0.length) = true := decide_eq_true (by omega)
            clear c15
            (first | rw [c15b0] | (simp only [i64_w, i32_w]; rw [c15b0]) | skip)
            replace H := Option.bind_eq_some_iff.mp H
            obtain ⟨t218, A160, H⟩ := H
            replace H : (paronymlaw29_RankSorts.j1 kj2 l0 t215 ([] : List (S33)) t218) = some r := H
            have A16 := Aside0.mk A160
            clear A160
            have H' := Aside0.mk H
            clear H
            go_wp2_with (first | ((with_reducible refine gate_callee (f := 28) rfl ?_); refine goesL_ (some 27) rfl rfl Try.func28 (by kernel_rfl) rfl #[.int .i64 a1, .int .i64 (l0.length : Int)] rfl (by (try simp only [List.map_toArray, List.map_cons, List.map_nil]); first | done | rfl | (simp only [List.length_drop, List.length_take]; rfl)) ?_; (with_reducible refine (paronymref01_Rest.calls a1 (l0.length : Int) t218 _ A16.out).mono ?_); rintro e w' ⟨rfl, ⟨nd, rfl⟩⟩; refine ⟨_, rfl, ?_⟩))
            any_goals (have h_ := of_decide_eq_true c15b1; contradiction)
            go_meet
            case rel => exact ⟨_, (t218), (by first | rfl | (simp; done) | (simp [*]; done)), H', ⟨by have := HJ2.out; first | omega | exact Nat.le_refl _⟩, ⟨by (with_reducible repeat (first | apply Kd.V_alloc | apply Kd.V_drewN | apply Kd.V_drew)); exact Kd.V_mono HO_0.out (fun _ hk => ⟨hk.1, ⟨hk.2, (by simp [Value.ownBlock])⟩⟩)⟩, ⟨by (with_reducible repeat (first | apply Kd.N_alloc | apply Kd.N_drewN | apply Kd.N_drew)); exact Kd.N_mono HO217.out (fun _ hk => ⟨hk, (by simp [Value.ownBlock])⟩)⟩, ⟨by first | exact Kd.S_nil _ _ _ _ _ | exact Kd.N_nil _ _ _ _ _ | exact Kd.V_nil _ _ _ _ _ | exact Kd.Q_nil _ _ _ _ _ | exact Kd.R_nil _ _ _ _ _⟩, ⟨by repeat (first | (with_reducible first | exact HB.out | apply below_alloc | apply pw_below_drewN | apply below_drew1) | exact HB.out)⟩⟩
          · rw [if_neg c15] at H
            have c15b0 : decide (0 < (l0.length : Int)) = false := decide_eq_false c15
            have c15b1 : decide (0 < l0.length) = false := decide_eq_false (by omega)
            clear c15
            (first | rw [c15b0] | (simp only [i64_w, i32_w]; rw [c15b0]) | skip)
            have H' := Aside0.mk H
            clear H
            go_wp2
            any_goals (have h_ := of_decide_eq_false c15b1; contradiction)
            go_meet
            case rel => exact ⟨_, (0), (by first | rfl | (simp; done) | (simp [*]; done)), H', ⟨by have := HJ2.out; first | omega | exact Nat.le_refl _⟩, ⟨by (with_reducible repeat (first | apply Kd.V_alloc | apply Kd.V_drewN | apply Kd.V_drew)); exact Kd.V_mono HO_0.out (fun _ hk => ⟨hk.1, ⟨hk.2, (by simp [Value.ownBlock])⟩⟩)⟩, ⟨by (with_reducible repeat (first | apply Kd.N_alloc | apply Kd.N_drewN | apply Kd.N_drew)); exact Kd.N_mono HO217.out (fun _ hk => ⟨hk, (by simp [Value.ownBlock])⟩)⟩, ⟨by first | exact Kd.S_nil _ _ _ _ _ | exact Kd.N_nil _ _ _ _ _ | exact Kd.V_nil _ _ _ _ _ | exact Kd.Q_nil _ _ _ _ _ | exact Kd.R_nil _ _ _ _ _⟩, ⟨by repeat (first | (with_reducible first | exact HB.out | apply below_alloc | apply pw_below_drewN | apply below_drew1) | exact HB.out)⟩⟩
        case rest =>
          clear HC13
          try clear c1
          try clear c2
          try clear p2
          try clear c5
          try clear c7
          try clear c9
          try clear c15
          try clear c15b0
          try clear c15b1
          try clear p2
          obtain ⟨kq, x7_12, rfl, HA, HJ12, HO_0, HO_5, HO_6, HB⟩ := hcut
          cases kq with
          | zero => exact absurd HA.out (by simp [paronymlaw29_RankSorts.j1])
          | succ kj12 =>
            have H := HA.out
            clear HA
            simp only [paronymlaw29_RankSorts.j1] at H
            have H' := Aside0.mk H
            clear H
            go_wp2
            go_loopg [6, 8] kj12 (fun kq v6 v8 w' => ∃ (x6_3 : List (S33)) (x8_3 : Int), v8 = .int .i64 x8_3 ∧ Aside0 (paronymlaw29_RankSorts.l0 kq l0 t215 x6_3 x7_12 x8_3 = some r) ∧ Aside0 (kq ≤ kj12) ∧ Aside0 (Kd.V k33 33 w' w.heap.size (fun k_ => (P0_ k_ ∨ w.heap.size ≤ k_) ∧ some k_ ≠ (v216 : Value).ownBlock ∧ some k_ ≠ (v6 : Value).ownBlock) (.slice A0 l0.length c0) l0) ∧ Aside0 (Kd.N k33 33 w' w.heap.size (fun k_ => (P0_ k_ ∨ w.heap.size ≤ k_) ∧ some k_ ≠ (v6 : Value).ownBlock) v216 t215) ∧ Aside0 (Kd.N k33 33 w' w.heap.size (fun k_ => (P0_ k_ ∨ w.heap.size ≤ k_) ∧ some k_ ≠ (v216 : Value).ownBlock) v6 x6_3) ∧ Aside0 (Below w.heap.size w w'))
            case atStart => exact ⟨(([] : List (S33))), (0), (by first | rfl | (simp; done) | (simp [*]; done)), H', ⟨Nat.le_refl _⟩, ⟨by (with_reducible repeat (first | apply Kd.V_alloc | apply Kd.V_drewN | apply Kd.V_drew)); exact HO_0.out⟩, ⟨by (with_reducible repeat (first | apply Kd.N_alloc | apply Kd.N_drewN | apply Kd.N_drew)); exact HO_5.out⟩, ⟨by (with_reducible repeat (first | apply Kd.N_alloc | apply Kd.N_drewN | apply Kd.N_drew)); exact HO_6.out⟩, ⟨by repeat (first | (with_reducible first | exact HB.out | apply below_alloc | apply pw_below_drewN | apply below_drew1) | exact HB.out)⟩⟩
            case round =>
              clear H'
              try clear c1
              try clear c2
              try clear p2
              try clear c5
              try clear c7
              try clear c9
              try clear c15
              try clear c15b0
              try clear c15b1
              try clear p2
              obtain ⟨x6_3, x8_3, rfl, HA, HK3, HO_0, HO_5, HO_6, HB⟩ := hrel
              cases gk with
              | zero => exact absurd HA.out (by simp [paronymlaw29_RankSorts.l0])
              | succ k3 =>
                have H := HA.out
                clear HA
                simp only [paronymlaw29_RankSorts.l0] at H
                by_cases c17 : x8_3 < (l0.length : Int)
                · rw [if_pos c17] at H
                  have c17b0 : decide (x8_3 < (l0.length : Int)) = true := decide_eq_true c17
                  clear c17
                  by_cases c18 : (l0.length : Int) = 0
                  · rw [if_pos c18] at H
                    exact absurd H (by simp)
                  · rw [if_neg c18] at H
                    have c18b0 : ((l0.length : Int) == 0) = false := beq_eq_false_iff_ne.mpr c18
                    have c18b1 : ((l0.length : Int) != 0) = true := bne_iff_ne.mpr c18
                    have c18b2 : ¬ (l0 = []) := fun h_ => c18 (by rw [h_]; rfl)
                    obtain ⟨ji19, hji19⟩ : ∃ j_ : Int, (Int.tmod (wrap64 (x8_3 + x7_12)) (l0.length : Int)) = j_ := ⟨_, rfl⟩
                    replace H : (if 0 ≤ (ji19) then (if (ji19) < (l0.length : Int) then (if 0 ≤ x8_3 then ((some (([(⟨(rd_T33 l0 (ji19)).f0, (rd_T33 l0 (ji19)).f1, (rd_T33 l0 (ji19)).f2, (rd_T33 l0 (ji19)).f3, (rd_T33 l0 (ji19)).f4⟩ : S33), (⟨(rd_T33 l0 x8_3).f0, (rd_T33 l0 x8_3).f1, (rd_T33 l0 x8_3).f2, (rd_T33 l0 x8_3).f3, (rd_T33 l0 x8_3).f4⟩ : S33)] : List (S33)) : List (S33))).bind fun y221 => (if x6_3.length + y221.length < 2513169434916 then (paronymlaw29_RankSorts.l0 k3 l0 t215 (x6_3 ++ y221) x7_12 (wrap64 (x8_3 + 1))) else (none))) else (none)) else (none)) else (none)) = some r := by first | (rw [hji19] at H; exact H) | (simp only [hji19] at H ⊢; exact H)
                    by_cases c20 : 0 ≤ (ji19)
                    · rw [if_pos c20] at H
                      have c20b0 : decide (0 ≤ (ji19)) = true := decide_eq_true c20
                      clear c20
                      by_cases c21 : (ji19) < (l0.length : Int)
                      · rw [if_pos c21] at H
                        have c21b0 : decide ((ji19) < (l0.length : Int)) = true := decide_eq_true c21
                        clear c21
                        by_cases c22 : 0 ≤ x8_3
                        · rw [if_pos c22] at H
                          have c22b0 : decide (0 ≤ x8_3) = true := decide_eq_true c22
                          clear c22
                          obtain ⟨y221, hy221⟩ : ∃ y_ : List (S33), y_ = (([(⟨(rd_T33 l0 (ji19)).f0, (rd_T33 l0 (ji19)).f1, (rd_T33 l0 (ji19)).f2, (rd_T33 l0 (ji19)).f3, (rd_T33 l0 (ji19)).f4⟩ : S33), (⟨(rd_T33 l0 x8_3).f0, (rd_T33 l0 x8_3).f1, (rd_T33 l0 x8_3).f2, (rd_T33 l0 x8_3).f3, (rd_T33 l0 x8_3).f4⟩ : S33)] : List (S33))) := ⟨_, rfl⟩
                          replace H : (if x6_3.length + y221.length < 2513169434916 then (paronymlaw29_RankSorts.l0 k3 l0 t215 (x6_3 ++ y221) x7_12 (wrap64 (x8_3 + 1))) else (none)) = some r := by first | (rw [hy221]; with_reducible exact H) | (have H2_ := (Option.bind_some _ _).symm.trans H; rw [hy221]; with_reducible exact H2_) | (have H2_ := (Option.bind_some _ _).symm.trans H; with_reducible exact H2_) | with_reducible exact H | (rw [hy221]; exact H) | exact H
                          have Ny221 := Aside0.mk hy221
                          clear hy221
                          by_cases c23 : x6_3.length + y221.length < 2513169434916
                          · rw [if_pos c23] at H
                            have LMc23 := Aside0.mk c23
                            clear c23
                            obtain ⟨y224, hy224⟩ : ∃ y_ : List (S33), y_ = (x6_3 ++ y221) := ⟨_, rfl⟩
                            replace H : (paronymlaw29_RankSorts.l0 k3 l0 t215 y224 x7_12 (wrap64 (x8_3 + 1))) = some r := by first | (rw [hy224]; with_reducible exact H) | (have H2_ := (Option.bind_some _ _).symm.trans H; rw [hy224]; with_reducible exact H2_) | (have H2_ := (Option.bind_some _ _).symm.trans H; with_reducible exact H2_) | with_reducible exact H | (rw [hy224]; exact H) | exact H
                            have Ny224 := Aside0.mk hy224
                            clear hy224
                            have H' := Aside0.mk H
                            clear H
                            try go_wp2
                            have n0_ := Aside0.mk (Kd.V_drew HO_0.out)
                            have n1_ := Aside0.mk (Kd.N_drew HO_5.out)
                            have n2_ := Aside0.mk (Kd.N_drew HO_6.out)
                            have n3_ := Aside0.mk (below_drew1 HB.out)
                            clear HO_0
                            clear HO_5
                            clear HO_6
                            clear HB
                            have HO_0 := n0_
                            have HO_5 := n1_
                            have HO_6 := n2_
                            have HB := n3_
                            clear n0_ n1_ n2_ n3_
                            have p219 : 0 ≤ ((ji19) : Int) := of_decide_eq_true (by first | (with_reducible assumption) | assumption)
                            have q219 : (ji19) < (l0.length : Int) := of_decide_eq_true (by first | (with_reducible assumption) | assumption)
                            obtain ⟨ad219, A219_0, c219_0, e219, hx219_0, hx219_1, hx219_2, hx219_3, hx219_4, hl219_0, hi219_0⟩ := at_T33 (Kd.V_reads' HO_0.out).2.2 (ji19) p219 q219
                            cases e219
                            obtain ⟨ce219, hce219, hMe219, hcc219⟩ := Kd.V_get HO_0.out z33 (ji19) p219 (by first | exact q219 | exact of_decide_eq_true (by first | (with_reducible assumption) | assumption) | (have e_ := (Kd.V_reads' HO_0.out).1; omega))
                            obtain ⟨ua219_0, uc219_0, rfl, ul219_0, ge219_0⟩ := k33_openF hMe219
                            have hv219_0 := hcc219 0 _ rfl
                            rw [Nat.add_zero] at hv219_0
                            replace hv219_0 := Option.some.inj (hv219_0.symm.trans hx219_0)
                            injection hv219_0 with hva_ hvn_ hvc_
                            rw [hva_] at ge219_0
                            rw [hvc_] at ul219_0
                            have HL219_0 := Aside0.mk (show Kd.V (Kd.int .i64) 3 _ w.heap.size _ _ ((rd_T33 l0 (ji19)).f0) from Kd.V_mk ul219_0 ge219_0)
                            clear hva_ hvn_ hvc_ ge219_0 ul219_0
                            clear hcc219 hce219
                            have HR219_0 := Aside0.mk hi219_0
                            have HC219_0 := Aside0.mk hl219_0
                            clear hi219_0 hl219_0
                            replace p219 := eq_true p219
                            replace q219 := eq_true q219
                            have p220 : 0 ≤ (x8_3 : Int) := of_decide_eq_true (by first | (with_reducible assumption) | assumption)
                            have q220 : x8_3 < (l0.length : Int) := of_decide_eq_true (by first | (with_reducible assumption) | assumption)
                            obtain ⟨ad220, A220_0, c220_0, e220, hx220_0, hx220_1, hx220_2, hx220_3, hx220_4, hl220_0, hi220_0⟩ := at_T33 (Kd.V_reads' HO_0.out).2.2 x8_3 p220 q220
                            obtain rfl : ad219 = ad220 := (by injection e220)
                            obtain ⟨ce220, hce220, hMe220, hcc220⟩ := Kd.V_get HO_0.out z33 x8_3 p220 (by first | exact q220 | exact of_decide_eq_true (by first | (with_reducible assumption) | assumption) | (have e_ := (Kd.V_reads' HO_0.out).1; omega))
                            obtain ⟨ua220_0, uc220_0, rfl, ul220_0, ge220_0⟩ := k33_openF hMe220
                            have hv220_0 := hcc220 0 _ rfl
                            rw [Nat.add_zero] at hv220_0
                            replace hv220_0 := Option.some.inj (hv220_0.symm.trans hx220_0)
                            injection hv220_0 with hva_ hvn_ hvc_
                            rw [hva_] at ge220_0
                            rw [hvc_] at ul220_0
                            have HL220_0 := Aside0.mk (show Kd.V (Kd.int .i64) 3 _ w.heap.size _ _ ((rd_T33 l0 x8_3).f0) from Kd.V_mk ul220_0 ge220_0)
                            clear hva_ hvn_ hvc_ ge220_0 ul220_0
                            clear hcc220 hce220
                            have HR220_0 := Aside0.mk hi220_0
                            have HC220_0 := Aside0.mk hl220_0
                            clear hi220_0 hl220_0
                            replace p220 := eq_true p220
                            replace q220 := eq_true q220
                            refine start_ (n := 17) (S := fun w' => w'.cell? (ad219.add (((ji19)).toNat * 5)) = some (.slice A219_0 ((rd_T33 l0 (ji19)).f0).length c219_0) ∧ w'.cell? ⟨(ad219.add (((ji19)).toNat * 5)).block, (ad219.add (((ji19)).toNat * 5)).off + 1, none⟩ = some (.int .i64 ((rd_T33 l0 (ji19)).f1)) ∧ w'.cell? ⟨(ad219.add (((ji19)).toNat * 5)).block, (ad219.add (((ji19)).toNat * 5)).off + 2, none⟩ = some (.int .i64 ((rd_T33 l0 (ji19)).f2)) ∧ w'.cell? ⟨(ad219.add (((ji19)).toNat * 5)).block, (ad219.add (((ji19)).toNat * 5)).off + 3, none⟩ = some (.bool ((rd_T33 l0 (ji19)).f3)) ∧ w'.cell? ⟨(ad219.add (((ji19)).toNat * 5)).block, (ad219.add (((ji19)).toNat * 5)).off + 4, none⟩ = some (.int .i64 ((rd_T33 l0 (ji19)).f4)) ∧ w'.cell? (ad219.add ((x8_3).toNat * 5)) = some (.slice A220_0 ((rd_T33 l0 x8_3).f0).length c220_0) ∧ w'.cell? ⟨(ad219.add ((x8_3).toNat * 5)).block, (ad219.add ((x8_3).toNat * 5)).off + 1, none⟩ = some (.int .i64 ((rd_T33 l0 x8_3).f1)) ∧ w'.cell? ⟨(ad219.add ((x8_3).toNat * 5)).block, (ad219.add ((x8_3).toNat * 5)).off + 2, none⟩ = some (.int .i64 ((rd_T33 l0 x8_3).f2)) ∧ w'.cell? ⟨(ad219.add ((x8_3).toNat * 5)).block, (ad219.add ((x8_3).toNat * 5)).off + 3, none⟩ = some (.bool ((rd_T33 l0 x8_3).f3)) ∧ w'.cell? ⟨(ad219.add ((x8_3).toNat * 5)).block, (ad219.add ((x8_3).toNat * 5)).off + 4, none⟩ = some (.int .i64 ((rd_T33 l0 x8_3).f4))) (ds := [15]) #[false, false, false, false, false, false, false, false, false, false, false, false, false, false, false, false, false] (by kernel_rfl) rfl rfl ⟨hx219_0, hx219_1, hx219_2, hx219_3, hx219_4, hx220_0, hx220_1, hx220_2, hx220_3, hx220_4⟩ (fun hHeld => ?_); refine with_tabW paronymlaw29_RankSorts.tab11 paronymlaw29_RankSorts.bits11 (fun HT_ HW_ => ?_)
                            generalize wr.drew = w24 at HO_0 HO_5 HO_6 HB HL219_0 HL220_0 HR219_0 HR220_0 hx219_0 hx219_1 hx219_2 hx219_3 hx219_4 hx220_0 hx220_1 hx220_2 hx220_3 hx220_4 hHeld ⊢
                            refine pure_ (i := 0) (N := some 34) (v := ?_) (a' := ?_) #[true, false, false, false, false, false, false, false, false, false, false, false, false, false, false, false, false] rfl rfl (any_of HT_.out (by kernel_rfl)) (fun _ _ _ h => h) (Or.inl ⟨by rfl, ?_⟩) ?_ ?_
                            rotate_left
                            · intro w'
                              go_simp
                              with_reducible rfl
                            rotate_left
                            · simp only [Act.put, List.setIfInBounds_toArray, List.set_cons_zero, List.set_cons_succ, i64_w, i32_w]
                              rfl
                            refine pure_ (i := 1) (N := some 35) (v := ?_) (a' := ?_) #[true, true, false, false, false, false, false, false, false, false, false, false, false, false, false, false, false] rfl rfl (any_of HT_.out (by kernel_rfl)) (fun _ _ _ h => h) (Or.inl ⟨by rfl, ?_⟩) ?_ ?_
                            rotate_left
                            · intro w'
                              go_simp
                              with_reducible rfl
                            rotate_left
                            · simp only [Act.put, List.setIfInBounds_toArray, List.set_cons_zero, List.set_cons_succ, i64_w, i32_w]
                              rfl
                            refine pure_ (i := 2) (N := some 36) (v := ?_) (a' := ?_) #[true, true, true, false, false, false, false, false, false, false, false, false, false, false, false, false, false] rfl rfl (any_of HT_.out (by kernel_rfl)) (fun _ _ _ h => h) (Or.inl ⟨by rfl, ?_⟩) ?_ ?_
                            rotate_left
                            · intro w'
                              go_simp
                              with_reducible rfl
                            rotate_left
                            · simp only [Act.put, List.setIfInBounds_toArray, List.set_cons_zero, List.set_cons_succ, i64_w, i32_w]
                              rfl
                            refine pure_ (i := 3) (N := some 37) (v := ?_) (a' := ?_) #[true, true, true, true, false, false, false, false, false, false, false, false, false, false, false, false, false] rfl rfl (any_of HT_.out (by kernel_rfl)) (fun _ _ _ h => h) (Or.inl ⟨by rfl, ?_⟩) ?_ ?_
                            rotate_left
                            · intro w'
                              go_simp
                              with_reducible rfl
                            rotate_left
                            · simp only [Act.put, List.setIfInBounds_toArray, List.set_cons_zero, List.set_cons_succ, i64_w, i32_w]
                              rfl
                            refine pure_ (i := 4) (N := some 38) (v := ?_) (a' := ?_) #[true, true, true, true, true, false, false, false, false, false, false, false, false, false, false, false, false] rfl rfl (any_of HT_.out (by kernel_rfl)) (fun _ _ _ h => h) (Or.inl ⟨by rfl, ?_⟩) ?_ ?_
                            rotate_left
                            · intro w'
                              go_simp
                              with_reducible rfl
                            rotate_left
                            · simp only [Act.put, List.setIfInBounds_toArray, List.set_cons_zero, List.set_cons_succ, i64_w, i32_w]
                              rfl
                            refine pure_ (i := 5) (N := some 39) (v := ?_) (a' := ?_) #[true, true, true, true, true, true, false, false, false, false, false, false, false, false, false, false, false] rfl rfl (any_of HT_.out (by kernel_rfl)) (fun _ _ _ h => h) (Or.inl ⟨by rfl, ?_⟩) ?_ ?_
                            rotate_left
                            · intro w'
                              go_simp
                              with_reducible rfl
                            rotate_left
                            · simp only [Act.put, List.setIfInBounds_toArray, List.set_cons_zero, List.set_cons_succ, i64_w, i32_w]
                              rfl
                            refine pure_ (i := 6) (N := some 40) (v := ?_) (a' := ?_) #[true, true, true, true, true, true, true, false, false, false, false, false, false, false, false, false, false] rfl rfl (any_of HT_.out (by kernel_rfl)) (fun _ _ _ h => h) (Or.inl ⟨by rfl, ?_⟩) ?_ ?_
                            rotate_left
                            · intro w'
                              go_simp
                              with_reducible rfl
                            rotate_left
                            · simp only [Act.put, List.setIfInBounds_toArray, List.set_cons_zero, List.set_cons_succ, i64_w, i32_w]
                              rfl
                            refine pure_ (i := 7) (N := some 41) (v := ?_) (a' := ?_) #[true, true, true, true, true, true, true, true, false, false, false, false, false, false, false, false, false] rfl rfl (any_of HT_.out (by kernel_rfl)) (fun _ _ _ h => h) (Or.inl ⟨by rfl, ?_⟩) ?_ ?_
                            rotate_left
                            · intro w'
                              go_simp
                              with_reducible rfl
                            rotate_left
                            · simp only [Act.put, List.setIfInBounds_toArray, List.set_cons_zero, List.set_cons_succ, i64_w, i32_w]
                              rfl
                            refine pure_ (i := 8) (N := some 42) (v := ?_) (a' := ?_) #[true, true, true, true, true, true, true, true, true, false, false, false, false, false, false, false, false] rfl rfl (any_of HT_.out (by kernel_rfl)) (fun _ _ _ h => h) (Or.inl ⟨by rfl, ?_⟩) ?_ ?_
                            rotate_left
                            · intro w'
                              go_simp
                              with_reducible rfl
                            rotate_left
                            · simp only [Act.put, List.setIfInBounds_toArray, List.set_cons_zero, List.set_cons_succ, i64_w, i32_w]
                              rfl
                            refine pure_ (i := 10) (N := some 44) (v := ?_) (a' := ?_) #[true, true, true, true, true, true, true, true, true, false, true, false, false, false, false, false, false] rfl rfl (any_of HT_.out (by kernel_rfl)) (fun _ _ _ h => h) (Or.inl ⟨by rfl, ?_⟩) ?_ ?_
                            rotate_left
                            · intro w'
                              go_simp
                              with_reducible rfl
                            rotate_left
                            · simp only [Act.put, List.setIfInBounds_toArray, List.set_cons_zero, List.set_cons_succ, i64_w, i32_w]
                              rfl
                            refine pure_ (i := 11) (N := some 45) (v := ?_) (a' := ?_) #[true, true, true, true, true, true, true, true, true, false, true, true, false, false, false, false, false] rfl rfl (any_of HT_.out (by kernel_rfl)) (fun _ _ _ h => h) (Or.inl ⟨by rfl, ?_⟩) ?_ ?_
                            rotate_left
                            · intro w'
                              go_simp
                              with_reducible rfl
                            rotate_left
                            · simp only [Act.put, List.setIfInBounds_toArray, List.set_cons_zero, List.set_cons_succ, i64_w, i32_w]
                              rfl
                            refine pure_ (i := 12) (N := some 46) (v := ?_) (a' := ?_) #[true, true, true, true, true, true, true, true, true, false, true, true, true, false, false, false, false] rfl rfl (any_of HT_.out (by kernel_rfl)) (fun _ _ _ h => h) (Or.inl ⟨by rfl, ?_⟩) ?_ ?_
                            rotate_left
                            · intro w'
                              go_simp
                              with_reducible rfl
                            rotate_left
                            · simp only [Act.put, List.setIfInBounds_toArray, List.set_cons_zero, List.set_cons_succ, i64_w, i32_w]
                              rfl
                            refine take_ (i := 9) (N := some 43) (v := ?_) (a' := ?_) #[true, true, true, true, true, true, true, true, true, true, true, true, true, false, false, false, false] rfl rfl (take_ofW HT_.out HW_.out (by kernel_rfl)) (fun _ _ _ h => h) (Or.inl ⟨by rfl, ?_⟩) hHeld ?_ ?_
                            rotate_left
                            · rintro w' ⟨s0, s1, s2, s3, s4, s5, s6, s7, s8, s9⟩
                              go_simp
                              with_reducible rfl
                            rotate_left
                            · simp only [Act.put, List.setIfInBounds_toArray, List.set_cons_zero, List.set_cons_succ, i64_w, i32_w]
                              rfl
                            refine take_ (i := 13) (N := some 47) (v := ?_) (a' := ?_) #[true, true, true, true, true, true, true, true, true, true, true, true, true, true, false, false, false] rfl rfl (take_ofW HT_.out HW_.out (by kernel_rfl)) (fun _ _ _ h => h) (Or.inl ⟨by rfl, ?_⟩) hHeld ?_ ?_
                            rotate_left
                            · rintro w' ⟨s0, s1, s2, s3, s4, s5, s6, s7, s8, s9⟩
                              go_simp
                              with_reducible rfl
                            rotate_left
                            · simp only [Act.put, List.setIfInBounds_toArray, List.set_cons_zero, List.set_cons_succ, i64_w, i32_w]
                              rfl
                            refine one_ (i := 14) (N := some 48) #[true, true, true, true, true, true, true, true, true, true, true, true, true, true, true, false, false] rfl rfl (one_of HT_.out (by kernel_rfl)) (by decide) (fun K hK => ?_)
                            refine Kd.N_lit_step k33 _ 33 ?hg (N' := 48) ?hd (xs := ([(⟨(rd_T33 l0 (ji19)).f0, (rd_T33 l0 (ji19)).f1, (rd_T33 l0 (ji19)).f2, (rd_T33 l0 (ji19)).f3, (rd_T33 l0 (ji19)).f4⟩ : S33), (⟨(rd_T33 l0 x8_3).f0, (rd_T33 l0 x8_3).f1, (rd_T33 l0 x8_3).f2, (rd_T33 l0 x8_3).f3, (rd_T33 l0 x8_3).f4⟩ : S33)] : List (S33))) (inner := [.slice A219_0 ((rd_T33 l0 (ji19)).f0).length c219_0, .int .i64 ((rd_T33 l0 (ji19)).f1), .int .i64 ((rd_T33 l0 (ji19)).f2), .bool ((rd_T33 l0 (ji19)).f3), .int .i64 ((rd_T33 l0 (ji19)).f4), .slice A220_0 ((rd_T33 l0 x8_3).f0).length c220_0, .int .i64 ((rd_T33 l0 x8_3).f1), .int .i64 ((rd_T33 l0 x8_3).f2), .bool ((rd_T33 l0 x8_3).f3), .int .i64 ((rd_T33 l0 x8_3).f4)]) (ok := (fun k_ => (P0_ k_ ∨ w.heap.size ≤ k_) ∧ some k_ ≠ (v216 : Value).ownBlock ∧ some k_ ≠ (u6 : Value).ownBlock)) (okp := (fun k_ => (P0_ k_ ∨ w.heap.size ≤ k_) ∧ some k_ ≠ (v216 : Value).ownBlock ∧ some k_ ≠ (u6 : Value).ownBlock)) ?hr ?hp (fun _ hk => hk) ((show ∀ k_, w24.heap.size ≤ k_ → (fun k_ => (P0_ k_ ∨ w.heap.size ≤ k_) ∧ some k_ ≠ (v216 : Value).ownBlock ∧ some k_ ≠ (u6 : Value).ownBlock) k_ from fun k_ hk => ⟨(.inr (Nat.le_trans (below_size (by repeat (first | (with_reducible first | exact HB.out | apply below_alloc | apply pw_below_drewN | apply below_drew1) | exact HB.out))) hk)), Kd.fresh' (Kd.N_lt (by (with_reducible repeat (first | apply Kd.N_alloc | apply Kd.N_drewN | apply Kd.N_drew)); exact HO_5.out)) k_ hk, Kd.fresh' (Kd.N_lt (by (with_reducible repeat (first | apply Kd.N_alloc | apply Kd.N_drewN | apply Kd.N_drew)); exact HO_6.out)) k_ hk⟩) _ (Nat.le_refl _)) (Below.refl _ _) (Nat.le_refl _) (by simp) ?_; (case hd => rfl); (case hg => rfl); (case hr => first | (go_simp; done) | (go_simp; rfl)); (case hp => exact (Reps.c5 (show Kd.FK k33 _ _ (⟨(rd_T33 l0 (ji19)).f0, (rd_T33 l0 (ji19)).f1, (rd_T33 l0 (ji19)).f2, (rd_T33 l0 (ji19)).f3, (rd_T33 l0 (ji19)).f4⟩ : S33) [.slice A219_0 ((rd_T33 l0 (ji19)).f0).length c219_0, .int .i64 ((rd_T33 l0 (ji19)).f1), .int .i64 ((rd_T33 l0 (ji19)).f2), .bool ((rd_T33 l0 (ji19)).f3), .int .i64 ((rd_T33 l0 (ji19)).f4)] from (k33_mkF _ _ (⟨(rd_T33 l0 (ji19)).f0, (rd_T33 l0 (ji19)).f1, (rd_T33 l0 (ji19)).f2, (rd_T33 l0 (ji19)).f3, (rd_T33 l0 (ji19)).f4⟩ : S33) (Kd.V_reads' (Kd.V_mono (ok' := (fun k_ => (P0_ k_ ∨ w.heap.size ≤ k_) ∧ some k_ ≠ (v216 : Value).ownBlock ∧ some k_ ≠ (u6 : Value).ownBlock)) (HL219_0.out) (fun k_ hk => ⟨hk.1, ⟨hk.2.1, hk.2.2⟩⟩))).2.1 (Kd.V_F (Kd.V_mono (ok' := (fun k_ => (P0_ k_ ∨ w.heap.size ≤ k_) ∧ some k_ ≠ (v216 : Value).ownBlock ∧ some k_ ≠ (u6 : Value).ownBlock)) (HL219_0.out) (fun k_ hk => ⟨hk.1, ⟨hk.2.1, hk.2.2⟩⟩))))) (Reps.c5 (show Kd.FK k33 _ _ (⟨(rd_T33 l0 x8_3).f0, (rd_T33 l0 x8_3).f1, (rd_T33 l0 x8_3).f2, (rd_T33 l0 x8_3).f3, (rd_T33 l0 x8_3).f4⟩ : S33) [.slice A220_0 ((rd_T33 l0 x8_3).f0).length c220_0, .int .i64 ((rd_T33 l0 x8_3).f1), .int .i64 ((rd_T33 l0 x8_3).f2), .bool ((rd_T33 l0 x8_3).f3), .int .i64 ((rd_T33 l0 x8_3).f4)] from (k33_mkF _ _ (⟨(rd_T33 l0 x8_3).f0, (rd_T33 l0 x8_3).f1, (rd_T33 l0 x8_3).f2, (rd_T33 l0 x8_3).f3, (rd_T33 l0 x8_3).f4⟩ : S33) (Kd.V_reads' (Kd.V_mono (ok' := (fun k_ => (P0_ k_ ∨ w.heap.size ≤ k_) ∧ some k_ ≠ (v216 : Value).ownBlock ∧ some k_ ≠ (u6 : Value).ownBlock)) (HL220_0.out) (fun k_ hk => ⟨hk.1, ⟨hk.2.1, hk.2.2⟩⟩))).2.1 (Kd.V_F (Kd.V_mono (ok' := (fun k_ => (P0_ k_ ∨ w.heap.size ≤ k_) ∧ some k_ ≠ (v216 : Value).ownBlock ∧ some k_ ≠ (u6 : Value).ownBlock)) (HL220_0.out) (fun k_ hk => ⟨hk.1, ⟨hk.2.1, hk.2.2⟩⟩))))) (Reps.none _ _))))
                            intro v222 w25 ho26 hb hg_ hnew_
                            have HS0_ := (hb.cell (World.block_lt_of_cell? _ _ (hHeld.1))).trans (hHeld.1)
                            have HS1_ := (hb.cell (World.block_lt_of_cell? _ _ (hHeld.2.1))).trans (hHeld.2.1)
                            have HS2_ := (hb.cell (World.block_lt_of_cell? _ _ (hHeld.2.2.1))).trans (hHeld.2.2.1)
                            have HS3_ := (hb.cell (World.block_lt_of_cell? _ _ (hHeld.2.2.2.1))).trans (hHeld.2.2.2.1)
                            have HS4_ := (hb.cell (World.block_lt_of_cell? _ _ (hHeld.2.2.2.2.1))).trans (hHeld.2.2.2.2.1)
                            have HS5_ := (hb.cell (World.block_lt_of_cell? _ _ (hHeld.2.2.2.2.2.1))).trans (hHeld.2.2.2.2.2.1)
                            have HS6_ := (hb.cell (World.block_lt_of_cell? _ _ (hHeld.2.2.2.2.2.2.1))).trans (hHeld.2.2.2.2.2.2.1)
                            have HS7_ := (hb.cell (World.block_lt_of_cell? _ _ (hHeld.2.2.2.2.2.2.2.1))).trans (hHeld.2.2.2.2.2.2.2.1)
                            have HS8_ := (hb.cell (World.block_lt_of_cell? _ _ (hHeld.2.2.2.2.2.2.2.2.1))).trans (hHeld.2.2.2.2.2.2.2.2.1)
                            have HS9_ := (hb.cell (World.block_lt_of_cell? _ _ (hHeld.2.2.2.2.2.2.2.2.2))).trans (hHeld.2.2.2.2.2.2.2.2.2)
                            clear hg_ hnew_
                            (first | rw [← Ny221.out] at ho26 | (simp only [Int.reduceToNat] at ho26; rw [← Ny221.out] at ho26))
                            have n0_ := Aside0.mk (Kd.V_elder' (by (with_reducible repeat (first | apply Kd.V_alloc | apply Kd.V_drewN | apply Kd.V_drew)); exact HO_0.out) (Kd.N_base ho26) hb)
                            have n1_ := Aside0.mk (Kd.N_elder' (by (with_reducible repeat (first | apply Kd.N_alloc | apply Kd.N_drewN | apply Kd.N_drew)); exact HO_5.out) (Kd.N_base ho26) hb)
                            have n2_ := Aside0.mk (Kd.N_elder' (by (with_reducible repeat (first | apply Kd.N_alloc | apply Kd.N_drewN | apply Kd.N_drew)); exact HO_6.out) (Kd.N_base ho26) hb)
                            have n3_ := Aside0.mk (Kd.V_elder' (by (with_reducible repeat (first | apply Kd.V_alloc | apply Kd.V_drewN | apply Kd.V_drew)); exact HL219_0.out) (Kd.N_base ho26) hb)
                            have n4_ := Aside0.mk (Kd.V_elder' (by (with_reducible repeat (first | apply Kd.V_alloc | apply Kd.V_drewN | apply Kd.V_drew)); exact HL220_0.out) (Kd.N_base ho26) hb)
                            have n5_ := Aside0.mk (Kd.N_lower ho26 (below_size (by repeat (first | (with_reducible first | exact HB.out | apply below_alloc | apply pw_below_drewN | apply below_drew1) | exact HB.out))))
                            have n6_ := Aside0.mk (Kd.C_below (by repeat (first | (with_reducible exact HR219_0.out) | (with_reducible refine Kd.C_alloc ?_ _) | (with_reducible refine Kd.C_drewN ?_ _) | (with_reducible refine Kd.C_drew ?_) | exact HR219_0.out)) hb)
                            have n7_ := Aside0.mk (Kd.C_below (by repeat (first | (with_reducible exact HR220_0.out) | (with_reducible refine Kd.C_alloc ?_ _) | (with_reducible refine Kd.C_drewN ?_ _) | (with_reducible refine Kd.C_drew ?_) | exact HR220_0.out)) hb)
                            have n8_ := Aside0.mk (below_step (by repeat (first | (with_reducible first | exact HB.out | apply below_alloc | apply pw_below_drewN | apply below_drew1) | exact HB.out)) hb)
                            clear HO_0
                            clear HO_5
                            clear HO_6
                            clear HL219_0
                            clear HL220_0
                            clear HR219_0
                            clear HR220_0
                            clear HB
                            have HO_0 := n0_
                            have HO_5 := n1_
                            have HO_6 := n2_
                            have HL219_0 := n3_
                            have HL220_0 := n4_
                            have HO223 := n5_
                            have HR219_0 := n6_
                            have HR220_0 := n7_
                            have HB := n8_
                            clear n0_ n1_ n2_ n3_ n4_ n5_ n6_ n7_ n8_
                            clear hb ho26
                            obtain ⟨Ao28, co28, eo28⟩ := Kd.N_slice HO223.out
                            (first | subst eo28 | (injection eo28 with f1_ f2_ f3_; have f4_ := f1_.symm; have f5_ := f3_.symm; clear f1_ f2_ f3_; subst f4_; subst f5_))
                            refine hK.out _ _ ⟨HS0_, HS1_, HS2_, HS3_, HS4_, HS5_, HS6_, HS7_, HS8_, HS9_⟩ (fun hHeld => ?_)
                            clear hK K
                            refine norm_ (a' := ?_) ?_ ?_
                            rotate_left
                            · show Act.put _ (some 48) _ = _
                              simp only [Act.put, List.setIfInBounds_toArray, List.set_cons_zero, List.set_cons_succ, i64_w, i32_w]
                              rfl
                            refine last_ (i := 15) (N := some 49) #[true, true, true, true, true, true, true, true, true, true, true, true, true, true, true, true, false] rfl rfl (one_of HT_.out (by kernel_rfl)) (by decide) (fun K hK => ?_)
                            refine Kd.N_append_rows_step k33 (w0 := w) w.heap.size (by rfl) (.tmp 34) (.tmp 48) 35 33 (.agg #[(.slice none 0 0), (.int .i64 0), (.int .i64 0), (.bool false), (.int .i64 0)]) 56 rfl Try.underlying35 info33 rfl (by decide) (by omega) u6 x6_3 y221 _ _ _ (fun k_ => (P0_ k_ ∨ w.heap.size ≤ k_) ∧ some k_ ≠ (v216 : Value).ownBlock) (fun k_ => ((fun k_ => (P0_ k_ ∨ w.heap.size ≤ k_) ∧ some k_ ≠ (v216 : Value).ownBlock)) k_ ∧ some k_ ≠ (u6 : Value).ownBlock) rfl rfl ?aO ?aR (fun _ hk => hk) ?aF ?aB ?aS ?aL ?_
                            (case aR => exact (by skip; exact Kd.N_F (Kd.N_mono (ok' := (fun k_ => ((fun k_ => (P0_ k_ ∨ w.heap.size ≤ k_) ∧ some k_ ≠ (v216 : Value).ownBlock)) k_ ∧ some k_ ≠ (u6 : Value).ownBlock)) (HO223.out) (fun k_ hk => ⟨⟨hk.1, hk.2.1⟩, hk.2.2⟩))))
                            (case aB => exact (by repeat (first | (with_reducible first | exact HB.out | apply below_alloc | apply pw_below_drewN | apply below_drew1) | exact HB.out)))
                            (case aF => exact (fun k_ hk => ⟨(.inr (Nat.le_trans (below_size (by repeat (first | (with_reducible first | exact HB.out | apply below_alloc | apply pw_below_drewN | apply below_drew1) | exact HB.out))) hk)), Kd.fresh' (Kd.N_lt (by (with_reducible repeat (first | apply Kd.N_alloc | apply Kd.N_drewN | apply Kd.N_drew)); exact HO_5.out)) k_ hk⟩))
                            (case aO => exact (by (with_reducible repeat (first | apply Kd.N_alloc | apply Kd.N_drewN | apply Kd.N_drew)); exact Kd.N_mono HO_6.out (fun _ hk => ⟨hk.1.1, hk.1.2⟩)))
                            (case aS => exact (below_size (by repeat (first | (with_reducible first | exact HB.out | apply below_alloc | apply pw_below_drewN | apply below_drew1) | exact HB.out))))
                            (case aL => have := LMc23.out; omega)
                            intro v225 w27 ho hb hg hat
                            rw [← Ny224.out] at ho
                            have n0_ := Aside0.mk (Kd.V_afterv (ok := (fun k_ => (P0_ k_ ∨ w.heap.size ≤ k_) ∧ some k_ ≠ (v216 : Value).ownBlock ∧ some k_ ≠ (.slice Ao28 y221.length co28 : Value).ownBlock)) (by (with_reducible repeat (first | apply Kd.V_alloc | apply Kd.V_drewN | apply Kd.V_drew)); exact Kd.V_mono HO_0.out (fun _ hk => ⟨⟨hk.1.1, ⟨hk.1.2.1, hk.2⟩⟩, hk.1.2.2⟩)) hg hat)
                            have n1_ := Aside0.mk (Kd.N_afterv (ok := (fun k_ => (P0_ k_ ∨ w.heap.size ≤ k_) ∧ some k_ ≠ (.slice Ao28 y221.length co28 : Value).ownBlock)) (by (with_reducible repeat (first | apply Kd.N_alloc | apply Kd.N_drewN | apply Kd.N_drew)); exact Kd.N_mono HO_5.out (fun _ hk => ⟨⟨hk.1.1, hk.2⟩, hk.1.2⟩)) hg hat)
                            have n2_ := Aside0.mk (Kd.V_afterv (ok := (fun k_ => (P0_ k_ ∨ w.heap.size ≤ k_) ∧ some k_ ≠ (v216 : Value).ownBlock ∧ some k_ ≠ (.slice Ao28 y221.length co28 : Value).ownBlock)) (by (with_reducible repeat (first | apply Kd.V_alloc | apply Kd.V_drewN | apply Kd.V_drew)); exact Kd.V_mono HL219_0.out (fun _ hk => ⟨⟨hk.1.1, ⟨hk.1.2.1, hk.2⟩⟩, hk.1.2.2⟩)) hg hat)
                            have n3_ := Aside0.mk (Kd.V_afterv (ok := (fun k_ => (P0_ k_ ∨ w.heap.size ≤ k_) ∧ some k_ ≠ (v216 : Value).ownBlock ∧ some k_ ≠ (.slice Ao28 y221.length co28 : Value).ownBlock)) (by (with_reducible repeat (first | apply Kd.V_alloc | apply Kd.V_drewN | apply Kd.V_drew)); exact Kd.V_mono HL220_0.out (fun _ hk => ⟨⟨hk.1.1, ⟨hk.1.2.1, hk.2⟩⟩, hk.1.2.2⟩)) hg hat)
                            have n4_ := Aside0.mk (Kd.N_afterv (ok := (fun k_ => (P0_ k_ ∨ w.heap.size ≤ k_) ∧ some k_ ≠ (v216 : Value).ownBlock)) (by (with_reducible repeat (first | apply Kd.N_alloc | apply Kd.N_drewN | apply Kd.N_drew)); exact Kd.N_mono HO223.out (fun _ hk => ⟨⟨hk.1, hk.2.1⟩, hk.2.2⟩)) hg hat)
                            have n5_ := Aside0.mk (hb)
                            have n6_ := Aside0.mk (ho)
                            clear HO_0
                            clear HO_5
                            clear HL219_0
                            clear HL220_0
                            clear HO223
                            clear HB
                            clear HO_6
                            have HO_0 := n0_
                            have HO_5 := n1_
                            have HL219_0 := n2_
                            have HL220_0 := n3_
                            have HO223 := n4_
                            have HB := n5_
                            have HO226 := n6_
                            clear n0_ n1_ n2_ n3_ n4_ n5_ n6_
                            clear ho hb hg hat
                            refine hK.out _ _ ?_
                            clear hK K
                            refine norm_ (a' := ?_) ?_ ?_
                            rotate_left
                            · show Act.put _ (some 49) _ = _
                              simp only [Act.put, List.setIfInBounds_toArray, List.set_cons_zero, List.set_cons_succ, i64_w, i32_w]
                              rfl
                            refine pure_ (i := 16) (N := some 6) (v := ?_) (a' := ?_) #[true, true, true, true, true, true, true, true, true, true, true, true, true, true, true, true, true] rfl rfl (any_of HT_.out (by kernel_rfl)) (fun _ _ _ h => h) (Or.inl ⟨by rfl, ?_⟩) ?_ ?_
                            rotate_left
                            · intro w'
                              go_simp
                              with_reducible rfl
                            rotate_left
                            · simp only [Act.put, List.setIfInBounds_toArray, List.set_cons_zero, List.set_cons_succ, i64_w, i32_w]
                              rfl
                            refine done_ (done_of HT_.out (by kernel_rfl)) ?_
                            try go_wp2
                            go_roundg k3
                            case measure => have := HJ2.out; have := HJ12.out; have := HK3.out; omega
                            case rel => exact ⟨(y224), (wrap64 (x8_3 + 1)), (by first | rfl | (simp; done) | (simp [*]; done)), H', ⟨by have := HJ2.out; have := HJ12.out; have := HK3.out; omega⟩, ⟨by (with_reducible repeat (first | apply Kd.V_alloc | apply Kd.V_drewN | apply Kd.V_drew)); exact Kd.V_mono HO_0.out (fun _ hk => ⟨hk.1.1, ⟨hk.1.2.1, hk.2⟩⟩)⟩, ⟨by (with_reducible repeat (first | apply Kd.N_alloc | apply Kd.N_drewN | apply Kd.N_drew)); exact Kd.N_mono HO_5.out (fun _ hk => ⟨hk.1.1, hk.2⟩)⟩, ⟨by (with_reducible repeat (first | apply Kd.N_alloc | apply Kd.N_drewN | apply Kd.N_drew)); exact HO226.out⟩, ⟨by repeat (first | (with_reducible first | exact HB.out | apply below_alloc | apply pw_below_drewN | apply below_drew1) | exact HB.out)⟩⟩
                          · rw [if_neg c23] at H
                            exact absurd H (by simp)
                        · rw [if_neg c22] at H
                          exact absurd H (by simp)
                      · rw [if_neg c21] at H
                        exact absurd H (by simp)
                    · rw [if_neg c20] at H
                      exact absurd H (by simp)
                · rw [if_neg c17] at H
                  have c17b0 : decide (x8_3 < (l0.length : Int)) = false := decide_eq_false c17
                  clear c17
                  have H' := Aside0.mk H
                  clear H
                  go_wp2
                  go_loopg [9, 10] k3 (fun kq v9 v10 w' => ∃ (x9_4 : Bool) (x10_4 : Int), v9 = .bool x9_4 ∧ v10 = .int .i64 x10_4 ∧ Aside0 (paronymlaw29_RankSorts.l1 kq l0 t215 x6_3 x9_4 x10_4 = some r) ∧ Aside0 (kq ≤ k3) ∧ Aside0 (Kd.V k33 33 w' w.heap.size (fun k_ => (P0_ k_ ∨ w.heap.size ≤ k_) ∧ some k_ ≠ (v216 : Value).ownBlock ∧ some k_ ≠ (u6 : Value).ownBlock) (.slice A0 l0.length c0) l0) ∧ Aside0 (Kd.N k33 33 w' w.heap.size (fun k_ => (P0_ k_ ∨ w.heap.size ≤ k_) ∧ some k_ ≠ (u6 : Value).ownBlock) v216 t215) ∧ Aside0 (Kd.N k33 33 w' w.heap.size (fun k_ => (P0_ k_ ∨ w.heap.size ≤ k_) ∧ some k_ ≠ (v216 : Value).ownBlock) u6 x6_3) ∧ Aside0 (Below w.heap.size w w'))
                  case atStart => exact ⟨(true), (1), (by first | rfl | (simp; done) | (simp [*]; done)), (by first | rfl | (simp; done) | (simp [*]; done)), H', ⟨Nat.le_refl _⟩, ⟨by (with_reducible repeat (first | apply Kd.V_alloc | apply Kd.V_drewN | apply Kd.V_drew)); exact HO_0.out⟩, ⟨by (with_reducible repeat (first | apply Kd.N_alloc | apply Kd.N_drewN | apply Kd.N_drew)); exact HO_5.out⟩, ⟨by (with_reducible repeat (first | apply Kd.N_alloc | apply Kd.N_drewN | apply Kd.N_drew)); exact HO_6.out⟩, ⟨by repeat (first | (with_reducible first | exact HB.out | apply below_alloc | apply pw_below_drewN | apply below_drew1) | exact HB.out)⟩⟩
                  case round =>
                    clear H'
                    try clear c1
                    try clear c2
                    try clear p2
                    try clear q2
                    try clear hx2
                    try clear c5
                    try clear p6
                    try clear c7
                    try clear c9
                    try clear c15
                    try clear c15b0
                    try clear c15b1
                    try clear c17
                    try clear c17b0
                    try clear c18
                    try clear c18b0
                    try clear c18b1
                    try clear c18b2
                    try clear c20
                    try clear c20b0
                    try clear c21
                    try clear c21b0
                    try clear p21
                    try clear q21
                    try clear hx21
                    try clear c22
                    try clear c22b0
                    try clear p22
                    try clear q22
                    try clear hx22
                    try clear c23
                    try clear c27
                    try clear c28
                    try clear hx219_0
                    try clear hx219_1
                    try clear hx219_2
                    try clear hx219_3
                    try clear hx219_4
                    try clear hx220_0
                    try clear hx220_1
                    try clear hx220_2
                    try clear hx220_3
                    try clear hx220_4
                    try clear p2
                    try clear p219
                    try clear p220
                    try clear q219
                    try clear q220
                    obtain ⟨x9_4, x10_4, rfl, rfl, HA, HK4, HO_0, HO_5, HO_6, HB⟩ := hrel
                    cases gk with
                    | zero => exact absurd HA.out (by simp [paronymlaw29_RankSorts.l1])
                    | succ k4 =>
                      have H := HA.out
                      clear HA
                      simp only [paronymlaw29_RankSorts.l1] at H
                      by_cases c29 : x10_4 < (l0.length : Int)
                      · rw [if_pos c29] at H
                        have c29b0 : decide (x10_4 < (l0.length : Int)) = true := decide_eq_true c29
                        clear c29
                        by_cases c30 : x9_4 = true
                        · subst c30
                          have H1 : (if 0 ≤ (wrap64 (x10_4 - 1)) then (if (wrap64 (x10_4 - 1)) < (l0.length : Int) then (if 0 ≤ x10_4 then ((paronymref29_Compare.f k4 ((rd_T33 l0 (wrap64 (x10_4 - 1))).f0) ((rd_T33 l0 (wrap64 (x10_4 - 1))).f1) ((rd_T33 l0 (wrap64 (x10_4 - 1))).f2) ((rd_T33 l0 (wrap64 (x10_4 - 1))).f3) ((rd_T33 l0 (wrap64 (x10_4 - 1))).f4) ((rd_T33 l0 x10_4).f0) ((rd_T33 l0 x10_4).f1) ((rd_T33 l0 x10_4).f2) ((rd_T33 l0 x10_4).f3) ((rd_T33 l0 x10_4).f4)).bind fun t229 => (paronymlaw29_RankSorts.l1 k4 l0 t215 x6_3 (decide (t229 < 0)) (wrap64 (x10_4 + 1)))) else (none)) else (none)) else (none)) = some r := by rw [if_pos rfl] at H; exact H
                          clear H
                          have H := H1
                          clear H1
                          obtain ⟨ji31, hji31⟩ : ∃ j_ : Int, (wrap64 (x10_4 - 1)) = j_ := ⟨_, rfl⟩
                          replace H : (if 0 ≤ (ji31) then (if (ji31) < (l0.length : Int) then (if 0 ≤ x10_4 then ((paronymref29_Compare.f k4 ((rd_T33 l0 (ji31)).f0) ((rd_T33 l0 (ji31)).f1) ((rd_T33 l0 (ji31)).f2) ((rd_T33 l0 (ji31)).f3) ((rd_T33 l0 (ji31)).f4) ((rd_T33 l0 x10_4).f0) ((rd_T33 l0 x10_4).f1) ((rd_T33 l0 x10_4).f2) ((rd_T33 l0 x10_4).f3) ((rd_T33 l0 x10_4).f4)).bind fun t229 => (paronymlaw29_RankSorts.l1 k4 l0 t215 x6_3 (decide (t229 < 0)) (wrap64 (x10_4 + 1)))) else (none)) else (none)) else (none)) = some r := by first | (rw [hji31] at H; exact H) | (simp only [hji31] at H ⊢; exact H)
                          have hji31w : (IntKind.i64.wrap (x10_4 - 1)) = ji31 := (i64_w _).trans hji31
                          by_cases c32 : 0 ≤ (ji31)
                          · rw [if_pos c32] at H
                            have c32b0 : decide (0 ≤ (ji31)) = true := decide_eq_true c32
                            clear c32
                            by_cases c33 : (ji31) < (l0.length : Int)
                            · rw [if_pos c33] at H
                              have c33b0 : decide ((ji31) < (l0.length : Int)) = true := decide_eq_true c33
                              clear c33
                              by_cases c34 : 0 ≤ x10_4
                              · rw [if_pos c34] at H
                                have c34b0 : decide (0 ≤ x10_4) = true := decide_eq_true c34
                                clear c34
                                replace H := Option.bind_eq_some_iff.mp H
                                obtain ⟨t229, A350, H⟩ := H
                                replace H : (paronymlaw29_RankSorts.l1 k4 l0 t215 x6_3 (decide (t229 < 0)) (wrap64 (x10_4 + 1))) = some r := H
                                have A35 := Aside0.mk A350
                                clear A350
                                have H' := Aside0.mk H
                                clear H
                                try go_wp2
                                have n0_ := Aside0.mk (Kd.V_drew HO_0.out)
                                have n1_ := Aside0.mk (Kd.N_drew HO_5.out)
                                have n2_ := Aside0.mk (Kd.N_drew HO_6.out)
                                have n3_ := Aside0.mk (below_drew1 HB.out)
                                clear HO_0
                                clear HO_5
                                clear HO_6
                                clear HB
                                have HO_0 := n0_
                                have HO_5 := n1_
                                have HO_6 := n2_
                                have HB := n3_
                                clear n0_ n1_ n2_ n3_
                                have p227 : 0 ≤ ((ji31) : Int) := of_decide_eq_true (by first | (with_reducible assumption) | assumption)
                                have q227 : (ji31) < (l0.length : Int) := of_decide_eq_true (by first | (with_reducible assumption) | assumption)
                                obtain ⟨ad227, A227_0, c227_0, e227, hx227_0, hx227_1, hx227_2, hx227_3, hx227_4, hl227_0, hi227_0⟩ := at_T33 (Kd.V_reads' HO_0.out).2.2 (ji31) p227 q227
                                cases e227
                                obtain ⟨ce227, hce227, hMe227, hcc227⟩ := Kd.V_get HO_0.out z33 (ji31) p227 (by first | exact q227 | exact of_decide_eq_true (by first | (with_reducible assumption) | assumption) | (have e_ := (Kd.V_reads' HO_0.out).1; omega))
                                obtain ⟨ua227_0, uc227_0, rfl, ul227_0, ge227_0⟩ := k33_openF hMe227
                                have hv227_0 := hcc227 0 _ rfl
                                rw [Nat.add_zero] at hv227_0
                                replace hv227_0 := Option.some.inj (hv227_0.symm.trans hx227_0)
                                injection hv227_0 with hva_ hvn_ hvc_
                                rw [hva_] at ge227_0
                                rw [hvc_] at ul227_0
                                have HL227_0 := Aside0.mk (show Kd.V (Kd.int .i64) 3 _ w.heap.size _ _ ((rd_T33 l0 (ji31)).f0) from Kd.V_mk ul227_0 ge227_0)
                                clear hva_ hvn_ hvc_ ge227_0 ul227_0
                                clear hcc227 hce227
                                have HR227_0 := Aside0.mk hi227_0
                                have HC227_0 := Aside0.mk hl227_0
                                clear hi227_0 hl227_0
                                replace p227 := eq_true p227
                                replace q227 := eq_true q227
                                have p228 : 0 ≤ (x10_4 : Int) := of_decide_eq_true (by first | (with_reducible assumption) | assumption)
                                have q228 : x10_4 < (l0.length : Int) := of_decide_eq_true (by first | (with_reducible assumption) | assumption)
                                obtain ⟨ad228, A228_0, c228_0, e228, hx228_0, hx228_1, hx228_2, hx228_3, hx228_4, hl228_0, hi228_0⟩ := at_T33 (Kd.V_reads' HO_0.out).2.2 x10_4 p228 q228
                                obtain rfl : ad227 = ad228 := (by injection e228)
                                obtain ⟨ce228, hce228, hMe228, hcc228⟩ := Kd.V_get HO_0.out z33 x10_4 p228 (by first | exact q228 | exact of_decide_eq_true (by first | (with_reducible assumption) | assumption) | (have e_ := (Kd.V_reads' HO_0.out).1; omega))
                                obtain ⟨ua228_0, uc228_0, rfl, ul228_0, ge228_0⟩ := k33_openF hMe228
                                have hv228_0 := hcc228 0 _ rfl
                                rw [Nat.add_zero] at hv228_0
                                replace hv228_0 := Option.some.inj (hv228_0.symm.trans hx228_0)
                                injection hv228_0 with hva_ hvn_ hvc_
                                rw [hva_] at ge228_0
                                rw [hvc_] at ul228_0
                                have HL228_0 := Aside0.mk (show Kd.V (Kd.int .i64) 3 _ w.heap.size _ _ ((rd_T33 l0 x10_4).f0) from Kd.V_mk ul228_0 ge228_0)
                                clear hva_ hvn_ hvc_ ge228_0 ul228_0
                                clear hcc228 hce228
                                have HR228_0 := Aside0.mk hi228_0
                                have HC228_0 := Aside0.mk hl228_0
                                clear hi228_0 hl228_0
                                replace p228 := eq_true p228
                                replace q228 := eq_true q228
                                refine start_ (n := 15) (S := fun w' => w'.cell? (ad227.add (((ji31)).toNat * 5)) = some (.slice A227_0 ((rd_T33 l0 (ji31)).f0).length c227_0) ∧ w'.cell? ⟨(ad227.add (((ji31)).toNat * 5)).block, (ad227.add (((ji31)).toNat * 5)).off + 1, none⟩ = some (.int .i64 ((rd_T33 l0 (ji31)).f1)) ∧ w'.cell? ⟨(ad227.add (((ji31)).toNat * 5)).block, (ad227.add (((ji31)).toNat * 5)).off + 2, none⟩ = some (.int .i64 ((rd_T33 l0 (ji31)).f2)) ∧ w'.cell? ⟨(ad227.add (((ji31)).toNat * 5)).block, (ad227.add (((ji31)).toNat * 5)).off + 3, none⟩ = some (.bool ((rd_T33 l0 (ji31)).f3)) ∧ w'.cell? ⟨(ad227.add (((ji31)).toNat * 5)).block, (ad227.add (((ji31)).toNat * 5)).off + 4, none⟩ = some (.int .i64 ((rd_T33 l0 (ji31)).f4)) ∧ w'.cell? (ad227.add ((x10_4).toNat * 5)) = some (.slice A228_0 ((rd_T33 l0 x10_4).f0).length c228_0) ∧ w'.cell? ⟨(ad227.add ((x10_4).toNat * 5)).block, (ad227.add ((x10_4).toNat * 5)).off + 1, none⟩ = some (.int .i64 ((rd_T33 l0 x10_4).f1)) ∧ w'.cell? ⟨(ad227.add ((x10_4).toNat * 5)).block, (ad227.add ((x10_4).toNat * 5)).off + 2, none⟩ = some (.int .i64 ((rd_T33 l0 x10_4).f2)) ∧ w'.cell? ⟨(ad227.add ((x10_4).toNat * 5)).block, (ad227.add ((x10_4).toNat * 5)).off + 3, none⟩ = some (.bool ((rd_T33 l0 x10_4).f3)) ∧ w'.cell? ⟨(ad227.add ((x10_4).toNat * 5)).block, (ad227.add ((x10_4).toNat * 5)).off + 4, none⟩ = some (.int .i64 ((rd_T33 l0 x10_4).f4))) (ds := []) #[false, false, false, false, false, false, false, false, false, false, false, false, false, false, false] (by kernel_rfl) rfl rfl ⟨hx227_0, hx227_1, hx227_2, hx227_3, hx227_4, hx228_0, hx228_1, hx228_2, hx228_3, hx228_4⟩ (fun hHeld => ?_); refine with_tabW paronymlaw29_RankSorts.tab16 paronymlaw29_RankSorts.bits16 (fun HT_ HW_ => ?_)
                                generalize wr.drew = w36 at HO_0 HO_5 HO_6 HB HL227_0 HL228_0 HR227_0 HR228_0 hx227_0 hx227_1 hx227_2 hx227_3 hx227_4 hx228_0 hx228_1 hx228_2 hx228_3 hx228_4 hHeld ⊢
                                refine pure_ (i := 0) (N := some 56) (v := ?_) (a' := ?_) #[true, false, false, false, false, false, false, false, false, false, false, false, false, false, false] rfl rfl (any_of HT_.out (by kernel_rfl)) (fun _ _ _ h => h) (Or.inl ⟨by rfl, ?_⟩) ?_ ?_
                                rotate_left
                                · intro w'
                                  go_simp
                                  with_reducible rfl
                                rotate_left
                                · simp only [Act.put, List.setIfInBounds_toArray, List.set_cons_zero, List.set_cons_succ, i64_w, i32_w]
                                  rfl
                                refine pure_ (i := 1) (N := some 57) (v := ?_) (a' := ?_) #[true, true, false, false, false, false, false, false, false, false, false, false, false, false, false] rfl rfl (any_of HT_.out (by kernel_rfl)) (fun _ _ _ h => h) (Or.inl ⟨by rfl, ?_⟩) ?_ ?_
                                rotate_left
                                · intro w'
                                  go_simp
                                  with_reducible rfl
                                rotate_left
                                · simp only [Act.put, List.setIfInBounds_toArray, List.set_cons_zero, List.set_cons_succ, i64_w, i32_w]
                                  rfl
                                refine pure_ (i := 2) (N := some 58) (v := ?_) (a' := ?_) #[true, true, true, false, false, false, false, false, false, false, false, false, false, false, false] rfl rfl (any_of HT_.out (by kernel_rfl)) (fun _ _ _ h => h) (Or.inl ⟨by rfl, ?_⟩) ?_ ?_
                                rotate_left
                                · intro w'
                                  go_simp
                                  with_reducible rfl
                                rotate_left
                                · simp only [Act.put, List.setIfInBounds_toArray, List.set_cons_zero, List.set_cons_succ, i64_w, i32_w]
                                  rfl
                                refine pure_ (i := 3) (N := some 59) (v := ?_) (a' := ?_) #[true, true, true, true, false, false, false, false, false, false, false, false, false, false, false] rfl rfl (any_of HT_.out (by kernel_rfl)) (fun _ _ _ h => h) (Or.inl ⟨by rfl, ?_⟩) ?_ ?_
                                rotate_left
                                · intro w'
                                  go_simp
                                  with_reducible rfl
                                rotate_left
                                · simp only [Act.put, List.setIfInBounds_toArray, List.set_cons_zero, List.set_cons_succ, i64_w, i32_w]
                                  rfl
                                refine pure_ (i := 4) (N := some 60) (v := ?_) (a' := ?_) #[true, true, true, true, true, false, false, false, false, false, false, false, false, false, false] rfl rfl (any_of HT_.out (by kernel_rfl)) (fun _ _ _ h => h) (Or.inl ⟨by rfl, ?_⟩) ?_ ?_
                                rotate_left
                                · intro w'
                                  go_simp
                                  with_reducible rfl
                                rotate_left
                                · simp only [Act.put, List.setIfInBounds_toArray, List.set_cons_zero, List.set_cons_succ, i64_w, i32_w]
                                  rfl
                                refine pure_ (i := 5) (N := some 61) (v := ?_) (a' := ?_) #[true, true, true, true, true, true, false, false, false, false, false, false, false, false, false] rfl rfl (any_of HT_.out (by kernel_rfl)) (fun _ _ _ h => h) (Or.inl ⟨by rfl, ?_⟩) ?_ ?_
                                rotate_left
                                · intro w'
                                  go_simp
                                  with_reducible rfl
                                rotate_left
                                · simp only [Act.put, List.setIfInBounds_toArray, List.set_cons_zero, List.set_cons_succ, i64_w, i32_w]
                                  rfl
                                refine pure_ (i := 7) (N := some 63) (v := ?_) (a' := ?_) #[true, true, true, true, true, true, false, true, false, false, false, false, false, false, false] rfl rfl (any_of HT_.out (by kernel_rfl)) (fun _ _ _ h => h) (Or.inl ⟨by rfl, ?_⟩) ?_ ?_
                                rotate_left
                                · intro w'
                                  go_simp
                                  with_reducible rfl
                                rotate_left
                                · simp only [Act.put, List.setIfInBounds_toArray, List.set_cons_zero, List.set_cons_succ, i64_w, i32_w]
                                  rfl
                                refine pure_ (i := 8) (N := some 64) (v := ?_) (a' := ?_) #[true, true, true, true, true, true, false, true, true, false, false, false, false, false, false] rfl rfl (any_of HT_.out (by kernel_rfl)) (fun _ _ _ h => h) (Or.inl ⟨by rfl, ?_⟩) ?_ ?_
                                rotate_left
                                · intro w'
                                  go_simp
                                  with_reducible rfl
                                rotate_left
                                · simp only [Act.put, List.setIfInBounds_toArray, List.set_cons_zero, List.set_cons_succ, i64_w, i32_w]
                                  rfl
                                refine pure_ (i := 9) (N := some 65) (v := ?_) (a' := ?_) #[true, true, true, true, true, true, false, true, true, true, false, false, false, false, false] rfl rfl (any_of HT_.out (by kernel_rfl)) (fun _ _ _ h => h) (Or.inl ⟨by rfl, ?_⟩) ?_ ?_
                                rotate_left
                                · intro w'
                                  go_simp
                                  with_reducible rfl
                                rotate_left
                                · simp only [Act.put, List.setIfInBounds_toArray, List.set_cons_zero, List.set_cons_succ, i64_w, i32_w]
                                  rfl
                                refine take_ (i := 6) (N := some 62) (v := ?_) (a' := ?_) #[true, true, true, true, true, true, true, true, true, true, false, false, false, false, false] rfl rfl (take_ofW HT_.out HW_.out (by kernel_rfl)) (fun _ _ _ h => h) (Or.inl ⟨by rfl, ?_⟩) hHeld ?_ ?_
                                rotate_left
                                · rintro w' ⟨s0, s1, s2, s3, s4, s5, s6, s7, s8, s9⟩
                                  go_simp
                                  with_reducible rfl
                                rotate_left
                                · simp only [Act.put, List.setIfInBounds_toArray, List.set_cons_zero, List.set_cons_succ, i64_w, i32_w]
                                  rfl
                                refine take_ (i := 10) (N := some 66) (v := ?_) (a' := ?_) #[true, true, true, true, true, true, true, true, true, true, true, false, false, false, false] rfl rfl (take_ofW HT_.out HW_.out (by kernel_rfl)) (fun _ _ _ h => h) (Or.inl ⟨by rfl, ?_⟩) hHeld ?_ ?_
                                rotate_left
                                · rintro w' ⟨s0, s1, s2, s3, s4, s5, s6, s7, s8, s9⟩
                                  go_simp
                                  with_reducible rfl
                                rotate_left
                                · simp only [Act.put, List.setIfInBounds_toArray, List.set_cons_zero, List.set_cons_succ, i64_w, i32_w]
                                  rfl
                                refine one_ (i := 11) (N := some 67) #[true, true, true, true, true, true, true, true, true, true, true, true, false, false, false] rfl rfl (one_of HT_.out (by kernel_rfl)) (by decide) (fun K hK => ?_)
                                refine goes_ Try.func26 (by kernel_rfl) rfl #[.agg #[.slice A227_0 ((rd_T33 l0 (ji31)).f0).length c227_0, .int .i64 ((rd_T33 l0 (ji31)).f1), .int .i64 ((rd_T33 l0 (ji31)).f2), .bool ((rd_T33 l0 (ji31)).f3), .int .i64 ((rd_T33 l0 (ji31)).f4)], .agg #[.slice A228_0 ((rd_T33 l0 x10_4).f0).length c228_0, .int .i64 ((rd_T33 l0 x10_4).f1), .int .i64 ((rd_T33 l0 x10_4).f2), .bool ((rd_T33 l0 x10_4).f3), .int .i64 ((rd_T33 l0 x10_4).f4)]] (by rfl) rfl rfl (by (try simp only [List.map_toArray, List.map_cons, List.map_nil]); first | done | (simp only [hji31]; rfl) | rfl | (simp only [List.length_drop, List.length_take]; rfl)) ?_
                                with_reducible refine (paronymref29_Compare.calls k4 _ _ ((rd_T33 l0 (ji31)).f0) ((rd_T33 l0 (ji31)).f1) ((rd_T33 l0 (ji31)).f2) ((rd_T33 l0 (ji31)).f3) ((rd_T33 l0 (ji31)).f4) _ _ ((rd_T33 l0 x10_4).f0) ((rd_T33 l0 x10_4).f1) ((rd_T33 l0 x10_4).f2) ((rd_T33 l0 x10_4).f3) ((rd_T33 l0 x10_4).f4) t229 _ ?side1 ?side2 ?side3 ?side4 A35.out).mono ?_
                                (case side1 => repeat (first | exact (by repeat (first | (with_reducible exact HR227_0.out) | (with_reducible refine Kd.C_alloc ?_ _) | (with_reducible refine Kd.C_drewN ?_ _) | (with_reducible refine Kd.C_drew ?_) | exact HR227_0.out)) | (with_reducible refine Kd.C_alloc ?_ _) | (with_reducible refine Kd.C_drewN ?_ _) | (with_reducible refine Kd.C_drew ?_)))
                                (case side2 => exact HC227_0.out)
                                (case side3 => repeat (first | exact (by repeat (first | (with_reducible exact HR228_0.out) | (with_reducible refine Kd.C_alloc ?_ _) | (with_reducible refine Kd.C_drewN ?_ _) | (with_reducible refine Kd.C_drew ?_) | exact HR228_0.out)) | (with_reducible refine Kd.C_alloc ?_ _) | (with_reducible refine Kd.C_drewN ?_ _) | (with_reducible refine Kd.C_drew ?_)))
                                (case side4 => exact HC228_0.out)
                                rintro e w37 ⟨rfl, hb⟩
                                have HS0_ := (hb.cell (World.block_lt_of_cell? _ _ (hHeld.1))).trans (hHeld.1)
                                have HS1_ := (hb.cell (World.block_lt_of_cell? _ _ (hHeld.2.1))).trans (hHeld.2.1)
                                have HS2_ := (hb.cell (World.block_lt_of_cell? _ _ (hHeld.2.2.1))).trans (hHeld.2.2.1)
                                have HS3_ := (hb.cell (World.block_lt_of_cell? _ _ (hHeld.2.2.2.1))).trans (hHeld.2.2.2.1)
                                have HS4_ := (hb.cell (World.block_lt_of_cell? _ _ (hHeld.2.2.2.2.1))).trans (hHeld.2.2.2.2.1)
                                have HS5_ := (hb.cell (World.block_lt_of_cell? _ _ (hHeld.2.2.2.2.2.1))).trans (hHeld.2.2.2.2.2.1)
                                have HS6_ := (hb.cell (World.block_lt_of_cell? _ _ (hHeld.2.2.2.2.2.2.1))).trans (hHeld.2.2.2.2.2.2.1)
                                have HS7_ := (hb.cell (World.block_lt_of_cell? _ _ (hHeld.2.2.2.2.2.2.2.1))).trans (hHeld.2.2.2.2.2.2.2.1)
                                have HS8_ := (hb.cell (World.block_lt_of_cell? _ _ (hHeld.2.2.2.2.2.2.2.2.1))).trans (hHeld.2.2.2.2.2.2.2.2.1)
                                have HS9_ := (hb.cell (World.block_lt_of_cell? _ _ (hHeld.2.2.2.2.2.2.2.2.2))).trans (hHeld.2.2.2.2.2.2.2.2.2)
                                refine ⟨_, rfl, ?_⟩
                                have n0_ := Aside0.mk (Kd.V_below (by (with_reducible repeat (first | apply Kd.V_alloc | apply Kd.V_drewN | apply Kd.V_drew)); exact HO_0.out) hb)
                                have n1_ := Aside0.mk (Kd.N_below (by (with_reducible repeat (first | apply Kd.N_alloc | apply Kd.N_drewN | apply Kd.N_drew)); exact HO_5.out) hb)
                                have n2_ := Aside0.mk (Kd.N_below (by (with_reducible repeat (first | apply Kd.N_alloc | apply Kd.N_drewN | apply Kd.N_drew)); exact HO_6.out) hb)
                                have n3_ := Aside0.mk (Kd.V_below (by (with_reducible repeat (first | apply Kd.V_alloc | apply Kd.V_drewN | apply Kd.V_drew)); exact HL227_0.out) hb)
                                have n4_ := Aside0.mk (Kd.V_below (by (with_reducible repeat (first | apply Kd.V_alloc | apply Kd.V_drewN | apply Kd.V_drew)); exact HL228_0.out) hb)
                                have n5_ := Aside0.mk (Kd.C_below (by repeat (first | (with_reducible exact HR227_0.out) | (with_reducible refine Kd.C_alloc ?_ _) | (with_reducible refine Kd.C_drewN ?_ _) | (with_reducible refine Kd.C_drew ?_) | exact HR227_0.out)) hb)
                                have n6_ := Aside0.mk (Kd.C_below (by repeat (first | (with_reducible exact HR228_0.out) | (with_reducible refine Kd.C_alloc ?_ _) | (with_reducible refine Kd.C_drewN ?_ _) | (with_reducible refine Kd.C_drew ?_) | exact HR228_0.out)) hb)
                                have n7_ := Aside0.mk (below_step (by repeat (first | (with_reducible first | exact HB.out | apply below_alloc | apply pw_below_drewN | apply below_drew1) | exact HB.out)) hb)
                                clear HO_0
                                clear HO_5
                                clear HO_6
                                clear HL227_0
                                clear HL228_0
                                clear HR227_0
                                clear HR228_0
                                clear HB
                                have HO_0 := n0_
                                have HO_5 := n1_
                                have HO_6 := n2_
                                have HL227_0 := n3_
                                have HL228_0 := n4_
                                have HR227_0 := n5_
                                have HR228_0 := n6_
                                have HB := n7_
                                clear n0_ n1_ n2_ n3_ n4_ n5_ n6_ n7_
                                (try clear hb)
                                (try clear hb2)
                                (try clear hk)
                                (try clear hi)
                                refine hK.out _ _ ⟨HS0_, HS1_, HS2_, HS3_, HS4_, HS5_, HS6_, HS7_, HS8_, HS9_⟩ (fun hHeld => ?_)
                                clear hK K
                                refine norm_ (a' := ?_) ?_ ?_
                                rotate_left
                                · show Act.put _ (some 67) _ = _
                                  simp only [Act.put, List.setIfInBounds_toArray, List.set_cons_zero, List.set_cons_succ, i64_w, i32_w]
                                  rfl
                                refine pure_ (i := 12) (N := some 68) (v := ?_) (a' := ?_) #[true, true, true, true, true, true, true, true, true, true, true, true, true, false, false] rfl rfl (any_of HT_.out (by kernel_rfl)) (fun _ _ _ h => h) (Or.inl ⟨by rfl, ?_⟩) ?_ ?_
                                rotate_left
                                · intro w'
                                  go_simp
                                  with_reducible rfl
                                rotate_left
                                · simp only [Act.put, List.setIfInBounds_toArray, List.set_cons_zero, List.set_cons_succ, i64_w, i32_w]
                                  rfl
                                refine pure_ (i := 13) (N := some 69) (v := ?_) (a' := ?_) #[true, true, true, true, true, true, true, true, true, true, true, true, true, true, false] rfl rfl (any_of HT_.out (by kernel_rfl)) (fun _ _ _ h => h) (Or.inl ⟨by rfl, ?_⟩) ?_ ?_
                                rotate_left
                                · intro w'
                                  go_simp
                                  with_reducible rfl
                                rotate_left
                                · simp only [Act.put, List.setIfInBounds_toArray, List.set_cons_zero, List.set_cons_succ, i64_w, i32_w]
                                  rfl
                                refine pure_ (i := 14) (N := some 9) (v := ?_) (a' := ?_) #[true, true, true, true, true, true, true, true, true, true, true, true, true, true, true] rfl rfl (any_of HT_.out (by kernel_rfl)) (fun _ _ _ h => h) (Or.inl ⟨by rfl, ?_⟩) ?_ ?_
                                rotate_left
                                · intro w'
                                  go_simp
                                  with_reducible rfl
                                rotate_left
                                · simp only [Act.put, List.setIfInBounds_toArray, List.set_cons_zero, List.set_cons_succ, i64_w, i32_w]
                                  rfl
                                refine done_ (done_of HT_.out (by kernel_rfl)) ?_
                                try go_wp2
                                go_roundg k4
                                case measure => have := HJ2.out; have := HJ12.out; have := HK3.out; have := HK4.out; omega
                                case rel => exact ⟨(decide (t229 < 0)), (wrap64 (x10_4 + 1)), (by first | rfl | (simp; done) | (simp [*]; done)), (by first | rfl | (simp; done) | (simp [*]; done)), H', ⟨by have := HJ2.out; have := HJ12.out; have := HK3.out; have := HK4.out; omega⟩, ⟨by (with_reducible repeat (first | apply Kd.V_alloc | apply Kd.V_drewN | apply Kd.V_drew)); exact HO_0.out⟩, ⟨by (with_reducible repeat (first | apply Kd.N_alloc | apply Kd.N_drewN | apply Kd.N_drew)); exact HO_5.out⟩, ⟨by (with_reducible repeat (first | apply Kd.N_alloc | apply Kd.N_drewN | apply Kd.N_drew)); exact HO_6.out⟩, ⟨by repeat (first | (with_reducible first | exact HB.out | apply below_alloc | apply pw_below_drewN | apply below_drew1) | exact HB.out)⟩⟩
                              · rw [if_neg c34] at H
                                exact absurd H (by simp)
                            · rw [if_neg c33] at H
                              exact absurd H (by simp)
                          · rw [if_neg c32] at H
                            exact absurd H (by simp)
                        · replace c30 := Bool.eq_false_iff.mpr c30
                          subst c30
                          have H1 : (paronymlaw29_RankSorts.l1 k4 l0 t215 x6_3 false (wrap64 (x10_4 + 1))) = some r := by rw [if_neg (show ¬ (false = true) by decide)] at H; exact H
                          clear H
                          have H := H1
                          clear H1
                          have H' := Aside0.mk H
                          clear H
                          try go_wp2
                          have n0_ := Aside0.mk (Kd.V_drew HO_0.out)
                          have n1_ := Aside0.mk (Kd.N_drew HO_5.out)
                          have n2_ := Aside0.mk (Kd.N_drew HO_6.out)
                          have n3_ := Aside0.mk (below_drew1 HB.out)
                          clear HO_0
                          clear HO_5
                          clear HO_6
                          clear HB
                          have HO_0 := n0_
                          have HO_5 := n1_
                          have HO_6 := n2_
                          have HB := n3_
                          clear n0_ n1_ n2_ n3_
                          refine start_ (n := 15) (S := fun w' => True) (ds := []) #[false, false, false, false, false, false, false, false, false, false, false, false, false, false, false] (by kernel_rfl) rfl rfl trivial (fun hHeld => ?_); refine with_tabW paronymlaw29_RankSorts.tab16 paronymlaw29_RankSorts.bits16 (fun HT_ HW_ => ?_)
                          generalize wr.drew = w38 at HO_0 HO_5 HO_6 HB hHeld ⊢
                          refine pure_ (i := 0) (N := some 56) (v := ?_) (a' := ?_) #[true, false, false, false, false, false, false, false, false, false, false, false, false, false, false] rfl rfl (any_of HT_.out (by kernel_rfl)) (fun _ _ _ h => h) (Or.inl ⟨by rfl, ?_⟩) ?_ ?_
                          rotate_left
                          · intro w'
                            go_simp
                            with_reducible rfl
                          rotate_left
                          · simp only [Act.put, List.setIfInBounds_toArray, List.set_cons_zero, List.set_cons_succ, i64_w, i32_w]
                            rfl
                          refine pure_ (i := 1) (N := some 57) (v := ?_) (a' := ?_) #[true, true, false, false, false, false, false, false, false, false, false, false, false, false, false] rfl rfl (any_of HT_.out (by kernel_rfl)) (fun _ _ _ h => h) (Or.inl ⟨by rfl, ?_⟩) ?_ ?_
                          rotate_left
                          · intro w'
                            go_simp
                            with_reducible rfl
                          rotate_left
                          · simp only [Act.put, List.setIfInBounds_toArray, List.set_cons_zero, List.set_cons_succ, i64_w, i32_w]
                            rfl
                          refine pure_ (i := 2) (N := some 58) (v := undef) (a' := ?_) #[true, true, true, false, false, false, false, false, false, false, false, false, false, false, false] rfl rfl (any_of HT_.out (by kernel_rfl)) (fun _ _ _ h => h) (Or.inr ⟨by rfl, rfl⟩) ?_ ?_
                          rotate_left
                          · simp only [Act.put, List.setIfInBounds_toArray, List.set_cons_zero, List.set_cons_succ, i64_w, i32_w]
                            rfl
                          refine pure_ (i := 3) (N := some 59) (v := undef) (a' := ?_) #[true, true, true, true, false, false, false, false, false, false, false, false, false, false, false] rfl rfl (any_of HT_.out (by kernel_rfl)) (fun _ _ _ h => h) (Or.inr ⟨by rfl, rfl⟩) ?_ ?_
                          rotate_left
                          · simp only [Act.put, List.setIfInBounds_toArray, List.set_cons_zero, List.set_cons_succ, i64_w, i32_w]
                            rfl
                          refine pure_ (i := 4) (N := some 60) (v := undef) (a' := ?_) #[true, true, true, true, true, false, false, false, false, false, false, false, false, false, false] rfl rfl (any_of HT_.out (by kernel_rfl)) (fun _ _ _ h => h) (Or.inr ⟨by rfl, rfl⟩) ?_ ?_
                          rotate_left
                          · simp only [Act.put, List.setIfInBounds_toArray, List.set_cons_zero, List.set_cons_succ, i64_w, i32_w]
                            rfl
                          refine pure_ (i := 5) (N := some 61) (v := undef) (a' := ?_) #[true, true, true, true, true, true, false, false, false, false, false, false, false, false, false] rfl rfl (any_of HT_.out (by kernel_rfl)) (fun _ _ _ h => h) (Or.inr ⟨by rfl, rfl⟩) ?_ ?_
                          rotate_left
                          · simp only [Act.put, List.setIfInBounds_toArray, List.set_cons_zero, List.set_cons_succ, i64_w, i32_w]
                            rfl
                          refine pure_ (i := 6) (N := some 62) (v := undef) (a' := ?_) #[true, true, true, true, true, true, true, false, false, false, false, false, false, false, false] rfl rfl (any_of HT_.out (by kernel_rfl)) (fun _ _ _ h => h) (Or.inr ⟨by rfl, rfl⟩) ?_ ?_
                          rotate_left
                          · simp only [Act.put, List.setIfInBounds_toArray, List.set_cons_zero, List.set_cons_succ, i64_w, i32_w]
                            rfl
                          refine pure_ (i := 7) (N := some 63) (v := undef) (a' := ?_) #[true, true, true, true, true, true, true, true, false, false, false, false, false, false, false] rfl rfl (any_of HT_.out (by kernel_rfl)) (fun _ _ _ h => h) (Or.inr ⟨by rfl, rfl⟩) ?_ ?_
                          rotate_left
                          · simp only [Act.put, List.setIfInBounds_toArray, List.set_cons_zero, List.set_cons_succ, i64_w, i32_w]
                            rfl
                          refine pure_ (i := 8) (N := some 64) (v := undef) (a' := ?_) #[true, true, true, true, true, true, true, true, true, false, false, false, false, false, false] rfl rfl (any_of HT_.out (by kernel_rfl)) (fun _ _ _ h => h) (Or.inr ⟨by rfl, rfl⟩) ?_ ?_
                          rotate_left
                          · simp only [Act.put, List.setIfInBounds_toArray, List.set_cons_zero, List.set_cons_succ, i64_w, i32_w]
                            rfl
                          refine pure_ (i := 9) (N := some 65) (v := undef) (a' := ?_) #[true, true, true, true, true, true, true, true, true, true, false, false, false, false, false] rfl rfl (any_of HT_.out (by kernel_rfl)) (fun _ _ _ h => h) (Or.inr ⟨by rfl, rfl⟩) ?_ ?_
                          rotate_left
                          · simp only [Act.put, List.setIfInBounds_toArray, List.set_cons_zero, List.set_cons_succ, i64_w, i32_w]
                            rfl
                          refine pure_ (i := 10) (N := some 66) (v := undef) (a' := ?_) #[true, true, true, true, true, true, true, true, true, true, true, false, false, false, false] rfl rfl (any_of HT_.out (by kernel_rfl)) (fun _ _ _ h => h) (Or.inr ⟨by rfl, rfl⟩) ?_ ?_
                          rotate_left
                          · simp only [Act.put, List.setIfInBounds_toArray, List.set_cons_zero, List.set_cons_succ, i64_w, i32_w]
                            rfl
                          refine pure_ (i := 11) (N := some 67) (v := undef) (a' := ?_) #[true, true, true, true, true, true, true, true, true, true, true, true, false, false, false] rfl rfl (any_of HT_.out (by kernel_rfl)) (fun _ _ _ h => h) (Or.inr ⟨by rfl, rfl⟩) ?_ ?_
                          rotate_left
                          · simp only [Act.put, List.setIfInBounds_toArray, List.set_cons_zero, List.set_cons_succ, i64_w, i32_w]
                            rfl
                          refine pure_ (i := 12) (N := some 68) (v := undef) (a' := ?_) #[true, true, true, true, true, true, true, true, true, true, true, true, true, false, false] rfl rfl (any_of HT_.out (by kernel_rfl)) (fun _ _ _ h => h) (Or.inr ⟨by rfl, rfl⟩) ?_ ?_
                          rotate_left
                          · simp only [Act.put, List.setIfInBounds_toArray, List.set_cons_zero, List.set_cons_succ, i64_w, i32_w]
                            rfl
                          refine pure_ (i := 13) (N := some 69) (v := ?_) (a' := ?_) #[true, true, true, true, true, true, true, true, true, true, true, true, true, true, false] rfl rfl (any_of HT_.out (by kernel_rfl)) (fun _ _ _ h => h) (Or.inl ⟨by rfl, ?_⟩) ?_ ?_
                          rotate_left
                          · intro w'
                            go_simp
                            with_reducible rfl
                          rotate_left
                          · simp only [Act.put, List.setIfInBounds_toArray, List.set_cons_zero, List.set_cons_succ, i64_w, i32_w]
                            rfl
                          refine pure_ (i := 14) (N := some 9) (v := ?_) (a' := ?_) #[true, true, true, true, true, true, true, true, true, true, true, true, true, true, true] rfl rfl (any_of HT_.out (by kernel_rfl)) (fun _ _ _ h => h) (Or.inl ⟨by rfl, ?_⟩) ?_ ?_
                          rotate_left
                          · intro w'
                            go_simp
                            with_reducible rfl
                          rotate_left
                          · simp only [Act.put, List.setIfInBounds_toArray, List.set_cons_zero, List.set_cons_succ, i64_w, i32_w]
                            rfl
                          refine done_ (done_of HT_.out (by kernel_rfl)) ?_
                          try go_wp2
                          go_roundg k4
                          case measure => have := HJ2.out; have := HJ12.out; have := HK3.out; have := HK4.out; omega
                          case rel => exact ⟨(false), (wrap64 (x10_4 + 1)), (by first | rfl | (simp; done) | (simp [*]; done)), (by first | rfl | (simp; done) | (simp [*]; done)), H', ⟨by have := HJ2.out; have := HJ12.out; have := HK3.out; have := HK4.out; omega⟩, ⟨by (with_reducible repeat (first | apply Kd.V_alloc | apply Kd.V_drewN | apply Kd.V_drew)); exact HO_0.out⟩, ⟨by (with_reducible repeat (first | apply Kd.N_alloc | apply Kd.N_drewN | apply Kd.N_drew)); exact HO_5.out⟩, ⟨by (with_reducible repeat (first | apply Kd.N_alloc | apply Kd.N_drewN | apply Kd.N_drew)); exact HO_6.out⟩, ⟨by repeat (first | (with_reducible first | exact HB.out | apply below_alloc | apply pw_below_drewN | apply below_drew1) | exact HB.out)⟩⟩
                      · rw [if_neg c29] at H
                        have c29b0 : decide (x10_4 < (l0.length : Int)) = false := decide_eq_false c29
                        clear c29
                        replace H := Option.bind_eq_some_iff.mp H
                        obtain ⟨t230, A390, H⟩ := H
                        replace H : ((paronymref28_Same.f k4 t230 t215).bind fun t233 => (if t233 = true then ((rank_Sort.f x6_3).bind fun t234 => ((paronymref28_Same.f k4 t234 t215).bind fun t237 => (if t237 = true then ((rank_Sorted.f k4 l0).bind fun t238 => (if (t238 == x9_4) = true then ((rank_Sorted.f k4 t215).bind fun t239 => (some t239)) else (some false))) else (some false)))) else (some false))) = some r := H
                        have A39 := Aside0.mk A390
                        clear A390
                        replace H := Option.bind_eq_some_iff.mp H
                        obtain ⟨t233, A400, H⟩ := H
                        replace H : (if t233 = true then ((rank_Sort.f x6_3).bind fun t234 => ((paronymref28_Same.f k4 t234 t215).bind fun t237 => (if t237 = true then ((rank_Sorted.f k4 l0).bind fun t238 => (if (t238 == x9_4) = true then ((rank_Sorted.f k4 t215).bind fun t239 => (some t239)) else (some false))) else (some false)))) else (some false)) = some r := H
                        have A40 := Aside0.mk A400
                        clear A400
                        by_cases c41 : t233 = true
                        · subst c41
                          have H1 : ((rank_Sort.f x6_3).bind fun t234 => ((paronymref28_Same.f k4 t234 t215).bind fun t237 => (if t237 = true then ((rank_Sorted.f k4 l0).bind fun t238 => (if (t238 == x9_4) = true then ((rank_Sorted.f k4 t215).bind fun t239 => (some t239)) else (some false))) else (some false)))) = some r := by rw [if_pos rfl] at H; exact H
                          clear H
                          have H := H1
                          clear H1
                          replace H := Option.bind_eq_some_iff.mp H
                          obtain ⟨t234, A420, H⟩ := H
                          replace H : ((paronymref28_Same.f k4 t234 t215).bind fun t237 => (if t237 = true then ((rank_Sorted.f k4 l0).bind fun t238 => (if (t238 == x9_4) = true then ((rank_Sorted.f k4 t215).bind fun t239 => (some t239)) else (some false))) else (some false))) = some r := H
                          have A42 := Aside0.mk A420
                          clear A420
                          replace H := Option.bind_eq_some_iff.mp H
                          obtain ⟨t237, A430, H⟩ := H
                          replace H : (if t237 = true then ((rank_Sorted.f k4 l0).bind fun t238 => (if (t238 == x9_4) = true then ((rank_Sorted.f k4 t215).bind fun t239 => (some t239)) else (some false))) else (some false)) = some r := H
                          have A43 := Aside0.mk A430
                          clear A430
                          by_cases c44 : t237 = true
                          · subst c44
                            have H1 : ((rank_Sorted.f k4 l0).bind fun t238 => (if (t238 == x9_4) = true then ((rank_Sorted.f k4 t215).bind fun t239 => (some t239)) else (some false))) = some r := by rw [if_pos rfl] at H; exact H
                            clear H
                            have H := H1
                            clear H1
                            replace H := Option.bind_eq_some_iff.mp H
                            obtain ⟨t238, A450, H⟩ := H
                            replace H : (if (t238 == x9_4) = true then ((rank_Sorted.f k4 t215).bind fun t239 => (some t239)) else (some false)) = some r := H
                            have A45 := Aside0.mk A450
                            clear A450
                            by_cases c46 : (t238 == x9_4) = true
                            · rw [if_pos c46] at H
                              have c46b0 : (t238 == x9_4) = true := c46
                              (try (have c46b1 : decide (t238 = x9_4) = true := by simpa using c46))
                              (try (have c46b2 : (t238 == x9_4) = true := by simpa using c46))
                              clear c46
                              replace H := Option.bind_eq_some_iff.mp H
                              obtain ⟨t239, A470, H⟩ := H
                              replace H : (some t239) = some r := H
                              have A47 := Aside0.mk A470
                              clear A470
                              obtain rfl := Option.some.inj H
                              go_wp2_with (first | ((with_reducible refine gate_callee (f := 30) rfl ?_); refine goesL_ (some 71) rfl rfl Try.func30 (by kernel_rfl) rfl #[.slice A0 l0.length c0] rfl (by (try simp only [List.map_toArray, List.map_cons, List.map_nil]); first | done | rfl | (simp only [List.length_drop, List.length_take]; rfl)) ?_; (with_reducible refine (rank_Sort.calls _ _ l0 t230 _ ?side1 ?side2 A39.out).mono ?_); (case side1 => repeat (first | exact (Kd.V_reads' HO_0.out).2.2 | (with_reducible refine Kd.C_alloc ?_ _) | (with_reducible refine Kd.C_drewN ?_ _) | (with_reducible refine Kd.C_drew ?_))); (case side2 => exact (Kd.V_reads' HO_0.out).2.1); rintro e w48 ⟨v231, rfl, ho0, hb⟩; refine ⟨_, rfl, ?_⟩; have n0_ := Aside0.mk (Kd.V_elder' (by (with_reducible repeat (first | apply Kd.V_alloc | apply Kd.V_drewN | apply Kd.V_drew)); exact HO_0.out) (Kd.N_base ho0) hb); have n1_ := Aside0.mk (Kd.N_elder' (by (with_reducible repeat (first | apply Kd.N_alloc | apply Kd.N_drewN | apply Kd.N_drew)); exact HO_5.out) (Kd.N_base ho0) hb); have n2_ := Aside0.mk (Kd.N_elder' (by (with_reducible repeat (first | apply Kd.N_alloc | apply Kd.N_drewN | apply Kd.N_drew)); exact HO_6.out) (Kd.N_base ho0) hb); have n3_ := Aside0.mk (Kd.N_lower (Kd.N_mono (ok' := fun k_ => (P0_ k_ ∨ w.heap.size ≤ k_) ∧ some k_ ≠ (v216 : Value).ownBlock ∧ some k_ ≠ (u6 : Value).ownBlock) ho0 (fun k_ hk_ => ⟨(.inr (Nat.le_trans (below_size (by repeat (first | (with_reducible first | exact HB.out | apply below_alloc | apply pw_below_drewN | apply below_drew1) | exact HB.out))) hk_)), (Kd.fresh' (Kd.N_lt (by (with_reducible repeat (first | apply Kd.N_alloc | apply Kd.N_drewN | apply Kd.N_drew)); exact HO_5.out)) k_ hk_), (Kd.fresh' (Kd.N_lt (by (with_reducible repeat (first | apply Kd.N_alloc | apply Kd.N_drewN | apply Kd.N_drew)); exact HO_6.out)) k_ hk_)⟩)) (below_size (by repeat (first | (with_reducible first | exact HB.out | apply below_alloc | apply pw_below_drewN | apply below_drew1) | exact HB.out)))); have n4_ := Aside0.mk (below_step (by repeat (first | (with_reducible first | exact HB.out | apply below_alloc | apply pw_below_drewN | apply below_drew1) | exact HB.out)) hb); clear HO_0; clear HO_5; clear HO_6; clear HB; have HO_0 := n0_; have HO_5 := n1_; have HO_6 := n2_; have HO232 := n3_; have HB := n4_; clear n0_ n1_ n2_ n3_ n4_; (try clear hb); (try clear hb2); (try clear hk); (try clear hi); (try clear ho0); obtain ⟨Ao49, co49, eo49⟩ := Kd.N_slice HO232.out; subst eo49; obtain ⟨Ao50, co50, eo50⟩ := Kd.N_slice HO_5.out; subst eo50) | ((with_reducible refine gate_callee (f := 29) rfl ?_); refine goesL_ (some 73) rfl rfl Try.func29 (by kernel_rfl) rfl #[.slice Ao49 t230.length co49, .slice Ao50 t215.length co50] rfl (by (try simp only [List.map_toArray, List.map_cons, List.map_nil]); first | done | rfl | (simp only [List.length_drop, List.length_take]; rfl)) ?_; (with_reducible refine (paronymref28_Same.calls k4 _ _ t230 _ _ t215 true _ ?side1 ?side2 ?side3 ?side4 A40.out).mono ?_); (case side1 => repeat (first | exact (Kd.N_reads' HO232.out).2.2 | (with_reducible refine Kd.C_alloc ?_ _) | (with_reducible refine Kd.C_drewN ?_ _) | (with_reducible refine Kd.C_drew ?_))); (case side2 => exact (Kd.N_reads' HO232.out).2.1); (case side3 => repeat (first | exact (Kd.N_reads' HO_5.out).2.2 | (with_reducible refine Kd.C_alloc ?_ _) | (with_reducible refine Kd.C_drewN ?_ _) | (with_reducible refine Kd.C_drew ?_))); (case side4 => exact (Kd.N_reads' HO_5.out).2.1); rintro e w51 ⟨rfl, hb⟩; refine ⟨_, rfl, ?_⟩; have n0_ := Aside0.mk (Kd.V_below (by (with_reducible repeat (first | apply Kd.V_alloc | apply Kd.V_drewN | apply Kd.V_drew)); exact HO_0.out) hb); have n1_ := Aside0.mk (Kd.N_below (by (with_reducible repeat (first | apply Kd.N_alloc | apply Kd.N_drewN | apply Kd.N_drew)); exact HO_5.out) hb); have n2_ := Aside0.mk (Kd.N_below (by (with_reducible repeat (first | apply Kd.N_alloc | apply Kd.N_drewN | apply Kd.N_drew)); exact HO_6.out) hb); have n3_ := Aside0.mk (Kd.N_below (by (with_reducible repeat (first | apply Kd.N_alloc | apply Kd.N_drewN | apply Kd.N_drew)); exact HO232.out) hb); have n4_ := Aside0.mk (below_step (by repeat (first | (with_reducible first | exact HB.out | apply below_alloc | apply pw_below_drewN | apply below_drew1) | exact HB.out)) hb); clear HO_0; clear HO_5; clear HO_6; clear HO232; clear HB; have HO_0 := n0_; have HO_5 := n1_; have HO_6 := n2_; have HO232 := n3_; have HB := n4_; clear n0_ n1_ n2_ n3_ n4_; (try clear hb); (try clear hb2); (try clear hk); (try clear hi); obtain ⟨Ao52, co52, eo52⟩ := Kd.N_slice HO_6.out; subst eo52) | (go_at_call 30; (with_reducible refine (rank_Sort.calls _ _ x6_3 t234 _ ?side1 ?side2 A42.out).mono ?_); (case side1 => repeat (first | exact (Kd.N_reads' HO_6.out).2.2 | (with_reducible refine Kd.C_alloc ?_ _) | (with_reducible refine Kd.C_drewN ?_ _) | (with_reducible refine Kd.C_drew ?_))); (case side2 => exact (Kd.N_reads' HO_6.out).2.1); rintro e w53 ⟨v235, rfl, ho0, hb⟩; have n0_ := Aside0.mk (Kd.V_elder' (by (with_reducible repeat (first | apply Kd.V_alloc | apply Kd.V_drewN | apply Kd.V_drew)); exact HO_0.out) (Kd.N_base ho0) hb); have n1_ := Aside0.mk (Kd.N_elder' (by (with_reducible repeat (first | apply Kd.N_alloc | apply Kd.N_drewN | apply Kd.N_drew)); exact HO_5.out) (Kd.N_base ho0) hb); have n2_ := Aside0.mk (Kd.N_elder' (by (with_reducible repeat (first | apply Kd.N_alloc | apply Kd.N_drewN | apply Kd.N_drew)); exact HO_6.out) (Kd.N_base ho0) hb); have n3_ := Aside0.mk (Kd.N_elder' (by (with_reducible repeat (first | apply Kd.N_alloc | apply Kd.N_drewN | apply Kd.N_drew)); exact HO232.out) (Kd.N_base ho0) hb); have n4_ := Aside0.mk (Kd.N_lower (Kd.N_mono (ok' := fun k_ => (P0_ k_ ∨ w.heap.size ≤ k_) ∧ some k_ ≠ (.slice Ao50 t215.length co50 : Value).ownBlock ∧ some k_ ≠ (.slice Ao52 x6_3.length co52 : Value).ownBlock ∧ some k_ ≠ (.slice Ao49 t230.length co49 : Value).ownBlock) ho0 (fun k_ hk_ => ⟨(.inr (Nat.le_trans (below_size (by repeat (first | (with_reducible first | exact HB.out | apply below_alloc | apply pw_below_drewN | apply below_drew1) | exact HB.out))) hk_)), (Kd.fresh' (Kd.N_lt (by (with_reducible repeat (first | apply Kd.N_alloc | apply Kd.N_drewN | apply Kd.N_drew)); exact HO_5.out)) k_ hk_), (Kd.fresh' (Kd.N_lt (by (with_reducible repeat (first | apply Kd.N_alloc | apply Kd.N_drewN | apply Kd.N_drew)); exact HO_6.out)) k_ hk_), (Kd.fresh' (Kd.N_lt (by (with_reducible repeat (first | apply Kd.N_alloc | apply Kd.N_drewN | apply Kd.N_drew)); exact HO232.out)) k_ hk_)⟩)) (below_size (by repeat (first | (with_reducible first | exact HB.out | apply below_alloc | apply pw_below_drewN | apply below_drew1) | exact HB.out)))); have n5_ := Aside0.mk (below_step (by repeat (first | (with_reducible first | exact HB.out | apply below_alloc | apply pw_below_drewN | apply below_drew1) | exact HB.out)) hb); clear HO_0; clear HO_5; clear HO_6; clear HO232; clear HB; have HO_0 := n0_; have HO_5 := n1_; have HO_6 := n2_; have HO232 := n3_; have HO236 := n4_; have HB := n5_; clear n0_ n1_ n2_ n3_ n4_ n5_; (try clear hb); (try clear hb2); (try clear hk); (try clear hi); (try clear ho0); obtain ⟨Ao54, co54, eo54⟩ := Kd.N_slice HO236.out; subst eo54) | (go_at_call 29; (with_reducible refine (paronymref28_Same.calls k4 _ _ t234 _ _ t215 true _ ?side1 ?side2 ?side3 ?side4 A43.out).mono ?_); (case side1 => repeat (first | exact (Kd.N_reads' HO236.out).2.2 | (with_reducible refine Kd.C_alloc ?_ _) | (with_reducible refine Kd.C_drewN ?_ _) | (with_reducible refine Kd.C_drew ?_))); (case side2 => exact (Kd.N_reads' HO236.out).2.1); (case side3 => repeat (first | exact (Kd.N_reads' HO_5.out).2.2 | (with_reducible refine Kd.C_alloc ?_ _) | (with_reducible refine Kd.C_drewN ?_ _) | (with_reducible refine Kd.C_drew ?_))); (case side4 => exact (Kd.N_reads' HO_5.out).2.1); rintro e w55 ⟨rfl, hb⟩; have n0_ := Aside0.mk (Kd.V_below (by (with_reducible repeat (first | apply Kd.V_alloc | apply Kd.V_drewN | apply Kd.V_drew)); exact HO_0.out) hb); have n1_ := Aside0.mk (Kd.N_below (by (with_reducible repeat (first | apply Kd.N_alloc | apply Kd.N_drewN | apply Kd.N_drew)); exact HO_5.out) hb); have n2_ := Aside0.mk (Kd.N_below (by (with_reducible repeat (first | apply Kd.N_alloc | apply Kd.N_drewN | apply Kd.N_drew)); exact HO_6.out) hb); have n3_ := Aside0.mk (Kd.N_below (by (with_reducible repeat (first | apply Kd.N_alloc | apply Kd.N_drewN | apply Kd.N_drew)); exact HO232.out) hb); have n4_ := Aside0.mk (Kd.N_below (by (with_reducible repeat (first | apply Kd.N_alloc | apply Kd.N_drewN | apply Kd.N_drew)); exact HO236.out) hb); have n5_ := Aside0.mk (below_step (by repeat (first | (with_reducible first | exact HB.out | apply below_alloc | apply pw_below_drewN | apply below_drew1) | exact HB.out)) hb); clear HO_0; clear HO_5; clear HO_6; clear HO232; clear HO236; clear HB; have HO_0 := n0_; have HO_5 := n1_; have HO_6 := n2_; have HO232 := n3_; have HO236 := n4_; have HB := n5_; clear n0_ n1_ n2_ n3_ n4_ n5_; (try clear hb); (try clear hb2); (try clear hk); (try clear hi)) | (go_at_call 31; (with_reducible refine (rank_Sorted.calls k4 _ _ l0 t238 _ ?side1 ?side2 A45.out).mono ?_); (case side1 => repeat (first | exact (Kd.V_reads' HO_0.out).2.2 | (with_reducible refine Kd.C_alloc ?_ _) | (with_reducible refine Kd.C_drewN ?_ _) | (with_reducible refine Kd.C_drew ?_))); (case side2 => exact (Kd.V_reads' HO_0.out).2.1); rintro e w56 ⟨rfl, hb⟩; have n0_ := Aside0.mk (Kd.V_below (by (with_reducible repeat (first | apply Kd.V_alloc | apply Kd.V_drewN | apply Kd.V_drew)); exact HO_0.out) hb); have n1_ := Aside0.mk (Kd.N_below (by (with_reducible repeat (first | apply Kd.N_alloc | apply Kd.N_drewN | apply Kd.N_drew)); exact HO_5.out) hb); have n2_ := Aside0.mk (Kd.N_below (by (with_reducible repeat (first | apply Kd.N_alloc | apply Kd.N_drewN | apply Kd.N_drew)); exact HO_6.out) hb); have n3_ := Aside0.mk (Kd.N_below (by (with_reducible repeat (first | apply Kd.N_alloc | apply Kd.N_drewN | apply Kd.N_drew)); exact HO232.out) hb); have n4_ := Aside0.mk (Kd.N_below (by (with_reducible repeat (first | apply Kd.N_alloc | apply Kd.N_drewN | apply Kd.N_drew)); exact HO236.out) hb); have n5_ := Aside0.mk (below_step (by repeat (first | (with_reducible first | exact HB.out | apply below_alloc | apply pw_below_drewN | apply below_drew1) | exact HB.out)) hb); clear HO_0; clear HO_5; clear HO_6; clear HO232; clear HO236; clear HB; have HO_0 := n0_; have HO_5 := n1_; have HO_6 := n2_; have HO232 := n3_; have HO236 := n4_; have HB := n5_; clear n0_ n1_ n2_ n3_ n4_ n5_; (try clear hb); (try clear hb2); (try clear hk); (try clear hi)) | (go_at_call 31; (with_reducible refine (rank_Sorted.calls k4 _ _ t215 t239 _ ?side1 ?side2 A47.out).mono ?_); (case side1 => repeat (first | exact (Kd.N_reads' HO_5.out).2.2 | (with_reducible refine Kd.C_alloc ?_ _) | (with_reducible refine Kd.C_drewN ?_ _) | (with_reducible refine Kd.C_drew ?_))); (case side2 => exact (Kd.N_reads' HO_5.out).2.1); rintro e w57 ⟨rfl, hb⟩; have n0_ := Aside0.mk (Kd.V_below (by (with_reducible repeat (first | apply Kd.V_alloc | apply Kd.V_drewN | apply Kd.V_drew)); exact HO_0.out) hb); have n1_ := Aside0.mk (Kd.N_below (by (with_reducible repeat (first | apply Kd.N_alloc | apply Kd.N_drewN | apply Kd.N_drew)); exact HO_5.out) hb); have n2_ := Aside0.mk (Kd.N_below (by (with_reducible repeat (first | apply Kd.N_alloc | apply Kd.N_drewN | apply Kd.N_drew)); exact HO_6.out) hb); have n3_ := Aside0.mk (Kd.N_below (by (with_reducible repeat (first | apply Kd.N_alloc | apply Kd.N_drewN | apply Kd.N_drew)); exact HO232.out) hb); have n4_ := Aside0.mk (Kd.N_below (by (with_reducible repeat (first | apply Kd.N_alloc | apply Kd.N_drewN | apply Kd.N_drew)); exact HO236.out) hb); have n5_ := Aside0.mk (below_step (by repeat (first | (with_reducible first | exact HB.out | apply below_alloc | apply pw_below_drewN | apply below_drew1) | exact HB.out)) hb); clear HO_0; clear HO_5; clear HO_6; clear HO232; clear HO236; clear HB; have HO_0 := n0_; have HO_5 := n1_; have HO_6 := n2_; have HO232 := n3_; have HO236 := n4_; have HB := n5_; clear n0_ n1_ n2_ n3_ n4_ n5_; (try clear hb); (try clear hb2); (try clear hk); (try clear hi)))
                              go_ret
                              exact ⟨by first | rfl | (simp [errW_none, errW_some] <;> rfl) | (simp [*, errW_none, errW_some] <;> rfl), by repeat (first | (with_reducible first | exact HB.out | apply below_alloc | apply pw_below_drewN | apply below_drew1) | exact HB.out)⟩
                            · rw [if_neg c46] at H
                              have c46b0 : (t238 == x9_4) = false := by simpa using c46
                              (try (have c46b1 : decide (t238 = x9_4) = false := by simpa using c46))
                              (try (have c46b2 : (t238 == x9_4) = false := by simpa using c46))
                              (try (have c46b3 : ¬ (t238 = x9_4) := by simpa using c46))
                              clear c46
                              obtain rfl := Option.some.inj H
                              go_wp2_with (first | ((with_reducible refine gate_callee (f := 30) rfl ?_); refine goesL_ (some 71) rfl rfl Try.func30 (by kernel_rfl) rfl #[.slice A0 l0.length c0] rfl (by (try simp only [List.map_toArray, List.map_cons, List.map_nil]); first | done | rfl | (simp only [List.length_drop, List.length_take]; rfl)) ?_; (with_reducible refine (rank_Sort.calls _ _ l0 t230 _ ?side1 ?side2 A39.out).mono ?_); (case side1 => repeat (first | exact (Kd.V_reads' HO_0.out).2.2 | (with_reducible refine Kd.C_alloc ?_ _) | (with_reducible refine Kd.C_drewN ?_ _) | (with_reducible refine Kd.C_drew ?_))); (case side2 => exact (Kd.V_reads' HO_0.out).2.1); rintro e w58 ⟨v231, rfl, ho0, hb⟩; refine ⟨_, rfl, ?_⟩; have n0_ := Aside0.mk (Kd.V_elder' (by (with_reducible repeat (first | apply Kd.V_alloc | apply Kd.V_drewN | apply Kd.V_drew)); exact HO_0.out) (Kd.N_base ho0) hb); have n1_ := Aside0.mk (Kd.N_elder' (by (with_reducible repeat (first | apply Kd.N_alloc | apply Kd.N_drewN | apply Kd.N_drew)); exact HO_5.out) (Kd.N_base ho0) hb); have n2_ := Aside0.mk (Kd.N_elder' (by (with_reducible repeat (first | apply Kd.N_alloc | apply Kd.N_drewN | apply Kd.N_drew)); exact HO_6.out) (Kd.N_base ho0) hb); have n3_ := Aside0.mk (Kd.N_lower (Kd.N_mono (ok' := fun k_ => (P0_ k_ ∨ w.heap.size ≤ k_) ∧ some k_ ≠ (v216 : Value).ownBlock ∧ some k_ ≠ (u6 : Value).ownBlock) ho0 (fun k_ hk_ => ⟨(.inr (Nat.le_trans (below_size (by repeat (first | (with_reducible first | exact HB.out | apply below_alloc | apply pw_below_drewN | apply below_drew1) | exact HB.out))) hk_)), (Kd.fresh' (Kd.N_lt (by (with_reducible repeat (first | apply Kd.N_alloc | apply Kd.N_drewN | apply Kd.N_drew)); exact HO_5.out)) k_ hk_), (Kd.fresh' (Kd.N_lt (by (with_reducible repeat (first | apply Kd.N_alloc | apply Kd.N_drewN | apply Kd.N_drew)); exact HO_6.out)) k_ hk_)⟩)) (below_size (by repeat (first | (with_reducible first | exact HB.out | apply below_alloc | apply pw_below_drewN | apply below_drew1) | exact HB.out)))); have n4_ := Aside0.mk (below_step (by repeat (first | (with_reducible first | exact HB.out | apply below_alloc | apply pw_below_drewN | apply below_drew1) | exact HB.out)) hb); clear HO_0; clear HO_5; clear HO_6; clear HB; have HO_0 := n0_; have HO_5 := n1_; have HO_6 := n2_; have HO232 := n3_; have HB := n4_; clear n0_ n1_ n2_ n3_ n4_; (try clear hb); (try clear hb2); (try clear hk); (try clear hi); (try clear ho0); obtain ⟨Ao59, co59, eo59⟩ := Kd.N_slice HO232.out; subst eo59; obtain ⟨Ao60, co60, eo60⟩ := Kd.N_slice HO_5.out; subst eo60) | ((with_reducible refine gate_callee (f := 29) rfl ?_); refine goesL_ (some 73) rfl rfl Try.func29 (by kernel_rfl) rfl #[.slice Ao59 t230.length co59, .slice Ao60 t215.length co60] rfl (by (try simp only [List.map_toArray, List.map_cons, List.map_nil]); first | done | rfl | (simp only [List.length_drop, List.length_take]; rfl)) ?_; (with_reducible refine (paronymref28_Same.calls k4 _ _ t230 _ _ t215 true _ ?side1 ?side2 ?side3 ?side4 A40.out).mono ?_); (case side1 => repeat (first | exact (Kd.N_reads' HO232.out).2.2 | (with_reducible refine Kd.C_alloc ?_ _) | (with_reducible refine Kd.C_drewN ?_ _) | (with_reducible refine Kd.C_drew ?_))); (case side2 => exact (Kd.N_reads' HO232.out).2.1); (case side3 => repeat (first | exact (Kd.N_reads' HO_5.out).2.2 | (with_reducible refine Kd.C_alloc ?_ _) | (with_reducible refine Kd.C_drewN ?_ _) | (with_reducible refine Kd.C_drew ?_))); (case side4 => exact (Kd.N_reads' HO_5.out).2.1); rintro e w61 ⟨rfl, hb⟩; refine ⟨_, rfl, ?_⟩; have n0_ := Aside0.mk (Kd.V_below (by (with_reducible repeat (first | apply Kd.V_alloc | apply Kd.V_drewN | apply Kd.V_drew)); exact HO_0.out) hb); have n1_ := Aside0.mk (Kd.N_below (by (with_reducible repeat (first | apply Kd.N_alloc | apply Kd.N_drewN | apply Kd.N_drew)); exact HO_5.out) hb); have n2_ := Aside0.mk (Kd.N_below (by (with_reducible repeat (first | apply Kd.N_alloc | apply Kd.N_drewN | apply Kd.N_drew)); exact HO_6.out) hb); have n3_ := Aside0.mk (Kd.N_below (by (with_reducible repeat (first | apply Kd.N_alloc | apply Kd.N_drewN | apply Kd.N_drew)); exact HO232.out) hb); have n4_ := Aside0.mk (below_step (by repeat (first | (with_reducible first | exact HB.out | apply below_alloc | apply pw_below_drewN | apply below_drew1) | exact HB.out)) hb); clear HO_0; clear HO_5; clear HO_6; clear HO232; clear HB; have HO_0 := n0_; have HO_5 := n1_; have HO_6 := n2_; have HO232 := n3_; have HB := n4_; clear n0_ n1_ n2_ n3_ n4_; (try clear hb); (try clear hb2); (try clear hk); (try clear hi); obtain ⟨Ao62, co62, eo62⟩ := Kd.N_slice HO_6.out; subst eo62) | (go_at_call 30; (with_reducible refine (rank_Sort.calls _ _ x6_3 t234 _ ?side1 ?side2 A42.out).mono ?_); (case side1 => repeat (first | exact (Kd.N_reads' HO_6.out).2.2 | (with_reducible refine Kd.C_alloc ?_ _) | (with_reducible refine Kd.C_drewN ?_ _) | (with_reducible refine Kd.C_drew ?_))); (case side2 => exact (Kd.N_reads' HO_6.out).2.1); rintro e w63 ⟨v235, rfl, ho0, hb⟩; have n0_ := Aside0.mk (Kd.V_elder' (by (with_reducible repeat (first | apply Kd.V_alloc | apply Kd.V_drewN | apply Kd.V_drew)); exact HO_0.out) (Kd.N_base ho0) hb); have n1_ := Aside0.mk (Kd.N_elder' (by (with_reducible repeat (first | apply Kd.N_alloc | apply Kd.N_drewN | apply Kd.N_drew)); exact HO_5.out) (Kd.N_base ho0) hb); have n2_ := Aside0.mk (Kd.N_elder' (by (with_reducible repeat (first | apply Kd.N_alloc | apply Kd.N_drewN | apply Kd.N_drew)); exact HO_6.out) (Kd.N_base ho0) hb); have n3_ := Aside0.mk (Kd.N_elder' (by (with_reducible repeat (first | apply Kd.N_alloc | apply Kd.N_drewN | apply Kd.N_drew)); exact HO232.out) (Kd.N_base ho0) hb); have n4_ := Aside0.mk (Kd.N_lower (Kd.N_mono (ok' := fun k_ => (P0_ k_ ∨ w.heap.size ≤ k_) ∧ some k_ ≠ (.slice Ao60 t215.length co60 : Value).ownBlock ∧ some k_ ≠ (.slice Ao62 x6_3.length co62 : Value).ownBlock ∧ some k_ ≠ (.slice Ao59 t230.length co59 : Value).ownBlock) ho0 (fun k_ hk_ => ⟨(.inr (Nat.le_trans (below_size (by repeat (first | (with_reducible first | exact HB.out | apply below_alloc | apply pw_below_drewN | apply below_drew1) | exact HB.out))) hk_)), (Kd.fresh' (Kd.N_lt (by (with_reducible repeat (first | apply Kd.N_alloc | apply Kd.N_drewN | apply Kd.N_drew)); exact HO_5.out)) k_ hk_), (Kd.fresh' (Kd.N_lt (by (with_reducible repeat (first | apply Kd.N_alloc | apply Kd.N_drewN | apply Kd.N_drew)); exact HO_6.out)) k_ hk_), (Kd.fresh' (Kd.N_lt (by (with_reducible repeat (first | apply Kd.N_alloc | apply Kd.N_drewN | apply Kd.N_drew)); exact HO232.out)) k_ hk_)⟩)) (below_size (by repeat (first | (with_reducible first | exact HB.out | apply below_alloc | apply pw_below_drewN | apply below_drew1) | exact HB.out)))); have n5_ := Aside0.mk (below_step (by repeat (first | (with_reducible first | exact HB.out | apply below_alloc | apply pw_below_drewN | apply below_drew1) | exact HB.out)) hb); clear HO_0; clear HO_5; clear HO_6; clear HO232; clear HB; have HO_0 := n0_; have HO_5 := n1_; have HO_6 := n2_; have HO232 := n3_; have HO236 := n4_; have HB := n5_; clear n0_ n1_ n2_ n3_ n4_ n5_; (try clear hb); (try clear hb2); (try clear hk); (try clear hi); (try clear ho0); obtain ⟨Ao64, co64, eo64⟩ := Kd.N_slice HO236.out; subst eo64) | (go_at_call 29; (with_reducible refine (paronymref28_Same.calls k4 _ _ t234 _ _ t215 true _ ?side1 ?side2 ?side3 ?side4 A43.out).mono ?_); (case side1 => repeat (first | exact (Kd.N_reads' HO236.out).2.2 | (with_reducible refine Kd.C_alloc ?_ _) | (with_reducible refine Kd.C_drewN ?_ _) | (with_reducible refine Kd.C_drew ?_))); (case side2 => exact (Kd.N_reads' HO236.out).2.1); (case side3 => repeat (first | exact (Kd.N_reads' HO_5.out).2.2 | (with_reducible refine Kd.C_alloc ?_ _) | (with_reducible refine Kd.C_drewN ?_ _) | (with_reducible refine Kd.C_drew ?_))); (case side4 => exact (Kd.N_reads' HO_5.out).2.1); rintro e w65 ⟨rfl, hb⟩; have n0_ := Aside0.mk (Kd.V_below (by (with_reducible repeat (first | apply Kd.V_alloc | apply Kd.V_drewN | apply Kd.V_drew)); exact HO_0.out) hb); have n1_ := Aside0.mk (Kd.N_below (by (with_reducible repeat (first | apply Kd.N_alloc | apply Kd.N_drewN | apply Kd.N_drew)); exact HO_5.out) hb); have n2_ := Aside0.mk (Kd.N_below (by (with_reducible repeat (first | apply Kd.N_alloc | apply Kd.N_drewN | apply Kd.N_drew)); exact HO_6.out) hb); have n3_ := Aside0.mk (Kd.N_below (by (with_reducible repeat (first | apply Kd.N_alloc | apply Kd.N_drewN | apply Kd.N_drew)); exact HO232.out) hb); have n4_ := Aside0.mk (Kd.N_below (by (with_reducible repeat (first | apply Kd.N_alloc | apply Kd.N_drewN | apply Kd.N_drew)); exact HO236.out) hb); have n5_ := Aside0.mk (below_step (by repeat (first | (with_reducible first | exact HB.out | apply below_alloc | apply pw_below_drewN | apply below_drew1) | exact HB.out)) hb); clear HO_0; clear HO_5; clear HO_6; clear HO232; clear HO236; clear HB; have HO_0 := n0_; have HO_5 := n1_; have HO_6 := n2_; have HO232 := n3_; have HO236 := n4_; have HB := n5_; clear n0_ n1_ n2_ n3_ n4_ n5_; (try clear hb); (try clear hb2); (try clear hk); (try clear hi)) | (go_at_call 31; (with_reducible refine (rank_Sorted.calls k4 _ _ l0 t238 _ ?side1 ?side2 A45.out).mono ?_); (case side1 => repeat (first | exact (Kd.V_reads' HO_0.out).2.2 | (with_reducible refine Kd.C_alloc ?_ _) | (with_reducible refine Kd.C_drewN ?_ _) | (with_reducible refine Kd.C_drew ?_))); (case side2 => exact (Kd.V_reads' HO_0.out).2.1); rintro e w66 ⟨rfl, hb⟩; have n0_ := Aside0.mk (Kd.V_below (by (with_reducible repeat (first | apply Kd.V_alloc | apply Kd.V_drewN | apply Kd.V_drew)); exact HO_0.out) hb); have n1_ := Aside0.mk (Kd.N_below (by (with_reducible repeat (first | apply Kd.N_alloc | apply Kd.N_drewN | apply Kd.N_drew)); exact HO_5.out) hb); have n2_ := Aside0.mk (Kd.N_below (by (with_reducible repeat (first | apply Kd.N_alloc | apply Kd.N_drewN | apply Kd.N_drew)); exact HO_6.out) hb); have n3_ := Aside0.mk (Kd.N_below (by (with_reducible repeat (first | apply Kd.N_alloc | apply Kd.N_drewN | apply Kd.N_drew)); exact HO232.out) hb); have n4_ := Aside0.mk (Kd.N_below (by (with_reducible repeat (first | apply Kd.N_alloc | apply Kd.N_drewN | apply Kd.N_drew)); exact HO236.out) hb); have n5_ := Aside0.mk (below_step (by repeat (first | (with_reducible first | exact HB.out | apply below_alloc | apply pw_below_drewN | apply below_drew1) | exact HB.out)) hb); clear HO_0; clear HO_5; clear HO_6; clear HO232; clear HO236; clear HB; have HO_0 := n0_; have HO_5 := n1_; have HO_6 := n2_; have HO232 := n3_; have HO236 := n4_; have HB := n5_; clear n0_ n1_ n2_ n3_ n4_ n5_; (try clear hb); (try clear hb2); (try clear hk); (try clear hi)))
                              go_ret
                              exact ⟨by first | rfl | (simp [errW_none, errW_some] <;> rfl) | (simp [*, errW_none, errW_some] <;> rfl), by repeat (first | (with_reducible first | exact HB.out | apply below_alloc | apply pw_below_drewN | apply below_drew1) | exact HB.out)⟩
                          · replace c44 := Bool.eq_false_iff.mpr c44
                            subst c44
                            have H1 : (some false) = some r := by rw [if_neg (show ¬ (false = true) by decide)] at H; exact H
                            clear H
                            have H := H1
                            clear H1
                            obtain rfl := Option.some.inj H
                            go_wp2_with (first | ((with_reducible refine gate_callee (f := 30) rfl ?_); refine goesL_ (some 71) rfl rfl Try.func30 (by kernel_rfl) rfl #[.slice A0 l0.length c0] rfl (by (try simp only [List.map_toArray, List.map_cons, List.map_nil]); first | done | rfl | (simp only [List.length_drop, List.length_take]; rfl)) ?_; (with_reducible refine (rank_Sort.calls _ _ l0 t230 _ ?side1 ?side2 A39.out).mono ?_); (case side1 => repeat (first | exact (Kd.V_reads' HO_0.out).2.2 | (with_reducible refine Kd.C_alloc ?_ _) | (with_reducible refine Kd.C_drewN ?_ _) | (with_reducible refine Kd.C_drew ?_))); (case side2 => exact (Kd.V_reads' HO_0.out).2.1); rintro e w67 ⟨v231, rfl, ho0, hb⟩; refine ⟨_, rfl, ?_⟩; have n0_ := Aside0.mk (Kd.V_elder' (by (with_reducible repeat (first | apply Kd.V_alloc | apply Kd.V_drewN | apply Kd.V_drew)); exact HO_0.out) (Kd.N_base ho0) hb); have n1_ := Aside0.mk (Kd.N_elder' (by (with_reducible repeat (first | apply Kd.N_alloc | apply Kd.N_drewN | apply Kd.N_drew)); exact HO_5.out) (Kd.N_base ho0) hb); have n2_ := Aside0.mk (Kd.N_elder' (by (with_reducible repeat (first | apply Kd.N_alloc | apply Kd.N_drewN | apply Kd.N_drew)); exact HO_6.out) (Kd.N_base ho0) hb); have n3_ := Aside0.mk (Kd.N_lower (Kd.N_mono (ok' := fun k_ => (P0_ k_ ∨ w.heap.size ≤ k_) ∧ some k_ ≠ (v216 : Value).ownBlock ∧ some k_ ≠ (u6 : Value).ownBlock) ho0 (fun k_ hk_ => ⟨(.inr (Nat.le_trans (below_size (by repeat (first | (with_reducible first | exact HB.out | apply below_alloc | apply pw_below_drewN | apply below_drew1) | exact HB.out))) hk_)), (Kd.fresh' (Kd.N_lt (by (with_reducible repeat (first | apply Kd.N_alloc | apply Kd.N_drewN | apply Kd.N_drew)); exact HO_5.out)) k_ hk_), (Kd.fresh' (Kd.N_lt (by (with_reducible repeat (first | apply Kd.N_alloc | apply Kd.N_drewN | apply Kd.N_drew)); exact HO_6.out)) k_ hk_)⟩)) (below_size (by repeat (first | (with_reducible first | exact HB.out | apply below_alloc | apply pw_below_drewN | apply below_drew1) | exact HB.out)))); have n4_ := Aside0.mk (below_step (by repeat (first | (with_reducible first | exact HB.out | apply below_alloc | apply pw_below_drewN | apply below_drew1) | exact HB.out)) hb); clear HO_0; clear HO_5; clear HO_6; clear HB; have HO_0 := n0_; have HO_5 := n1_; have HO_6 := n2_; have HO232 := n3_; have HB := n4_; clear n0_ n1_ n2_ n3_ n4_; (try clear hb); (try clear hb2); (try clear hk); (try clear hi); (try clear ho0); obtain ⟨Ao68, co68, eo68⟩ := Kd.N_slice HO232.out; subst eo68; obtain ⟨Ao69, co69, eo69⟩ := Kd.N_slice HO_5.out; subst eo69) | ((with_reducible refine gate_callee (f := 29) rfl ?_); refine goesL_ (some 73) rfl rfl Try.func29 (by kernel_rfl) rfl #[.slice Ao68 t230.length co68, .slice Ao69 t215.length co69] rfl (by (try simp only [List.map_toArray, List.map_cons, List.map_nil]); first | done | rfl | (simp only [List.length_drop, List.length_take]; rfl)) ?_; (with_reducible refine (paronymref28_Same.calls k4 _ _ t230 _ _ t215 true _ ?side1 ?side2 ?side3 ?side4 A40.out).mono ?_); (case side1 => repeat (first | exact (Kd.N_reads' HO232.out).2.2 | (with_reducible refine Kd.C_alloc ?_ _) | (with_reducible refine Kd.C_drewN ?_ _) | (with_reducible refine Kd.C_drew ?_))); (case side2 => exact (Kd.N_reads' HO232.out).2.1); (case side3 => repeat (first | exact (Kd.N_reads' HO_5.out).2.2 | (with_reducible refine Kd.C_alloc ?_ _) | (with_reducible refine Kd.C_drewN ?_ _) | (with_reducible refine Kd.C_drew ?_))); (case side4 => exact (Kd.N_reads' HO_5.out).2.1); rintro e w70 ⟨rfl, hb⟩; refine ⟨_, rfl, ?_⟩; have n0_ := Aside0.mk (Kd.V_below (by (with_reducible repeat (first | apply Kd.V_alloc | apply Kd.V_drewN | apply Kd.V_drew)); exact HO_0.out) hb); have n1_ := Aside0.mk (Kd.N_below (by (with_reducible repeat (first | apply Kd.N_alloc | apply Kd.N_drewN | apply Kd.N_drew)); exact HO_5.out) hb); have n2_ := Aside0.mk (Kd.N_below (by (with_reducible repeat (first | apply Kd.N_alloc | apply Kd.N_drewN | apply Kd.N_drew)); exact HO_6.out) hb); have n3_ := Aside0.mk (Kd.N_below (by (with_reducible repeat (first | apply Kd.N_alloc | apply Kd.N_drewN | apply Kd.N_drew)); exact HO232.out) hb); have n4_ := Aside0.mk (below_step (by repeat (first | (with_reducible first | exact HB.out | apply below_alloc | apply pw_below_drewN | apply below_drew1) | exact HB.out)) hb); clear HO_0; clear HO_5; clear HO_6; clear HO232; clear HB; have HO_0 := n0_; have HO_5 := n1_; have HO_6 := n2_; have HO232 := n3_; have HB := n4_; clear n0_ n1_ n2_ n3_ n4_; (try clear hb); (try clear hb2); (try clear hk); (try clear hi); obtain ⟨Ao71, co71, eo71⟩ := Kd.N_slice HO_6.out; subst eo71) | (go_at_call 30; (with_reducible refine (rank_Sort.calls _ _ x6_3 t234 _ ?side1 ?side2 A42.out).mono ?_); (case side1 => repeat (first | exact (Kd.N_reads' HO_6.out).2.2 | (with_reducible refine Kd.C_alloc ?_ _) | (with_reducible refine Kd.C_drewN ?_ _) | (with_reducible refine Kd.C_drew ?_))); (case side2 => exact (Kd.N_reads' HO_6.out).2.1); rintro e w72 ⟨v235, rfl, ho0, hb⟩; have n0_ := Aside0.mk (Kd.V_elder' (by (with_reducible repeat (first | apply Kd.V_alloc | apply Kd.V_drewN | apply Kd.V_drew)); exact HO_0.out) (Kd.N_base ho0) hb); have n1_ := Aside0.mk (Kd.N_elder' (by (with_reducible repeat (first | apply Kd.N_alloc | apply Kd.N_drewN | apply Kd.N_drew)); exact HO_5.out) (Kd.N_base ho0) hb); have n2_ := Aside0.mk (Kd.N_elder' (by (with_reducible repeat (first | apply Kd.N_alloc | apply Kd.N_drewN | apply Kd.N_drew)); exact HO_6.out) (Kd.N_base ho0) hb); have n3_ := Aside0.mk (Kd.N_elder' (by (with_reducible repeat (first | apply Kd.N_alloc | apply Kd.N_drewN | apply Kd.N_drew)); exact HO232.out) (Kd.N_base ho0) hb); have n4_ := Aside0.mk (Kd.N_lower (Kd.N_mono (ok' := fun k_ => (P0_ k_ ∨ w.heap.size ≤ k_) ∧ some k_ ≠ (.slice Ao69 t215.length co69 : Value).ownBlock ∧ some k_ ≠ (.slice Ao71 x6_3.length co71 : Value).ownBlock ∧ some k_ ≠ (.slice Ao68 t230.length co68 : Value).ownBlock) ho0 (fun k_ hk_ => ⟨(.inr (Nat.le_trans (below_size (by repeat (first | (with_reducible first | exact HB.out | apply below_alloc | apply pw_below_drewN | apply below_drew1) | exact HB.out))) hk_)), (Kd.fresh' (Kd.N_lt (by (with_reducible repeat (first | apply Kd.N_alloc | apply Kd.N_drewN | apply Kd.N_drew)); exact HO_5.out)) k_ hk_), (Kd.fresh' (Kd.N_lt (by (with_reducible repeat (first | apply Kd.N_alloc | apply Kd.N_drewN | apply Kd.N_drew)); exact HO_6.out)) k_ hk_), (Kd.fresh' (Kd.N_lt (by (with_reducible repeat (first | apply Kd.N_alloc | apply Kd.N_drewN | apply Kd.N_drew)); exact HO232.out)) k_ hk_)⟩)) (below_size (by repeat (first | (with_reducible first | exact HB.out | apply below_alloc | apply pw_below_drewN | apply below_drew1) | exact HB.out)))); have n5_ := Aside0.mk (below_step (by repeat (first | (with_reducible first | exact HB.out | apply below_alloc | apply pw_below_drewN | apply below_drew1) | exact HB.out)) hb); clear HO_0; clear HO_5; clear HO_6; clear HO232; clear HB; have HO_0 := n0_; have HO_5 := n1_; have HO_6 := n2_; have HO232 := n3_; have HO236 := n4_; have HB := n5_; clear n0_ n1_ n2_ n3_ n4_ n5_; (try clear hb); (try clear hb2); (try clear hk); (try clear hi); (try clear ho0); obtain ⟨Ao73, co73, eo73⟩ := Kd.N_slice HO236.out; subst eo73) | (go_at_call 29; (with_reducible refine (paronymref28_Same.calls k4 _ _ t234 _ _ t215 false _ ?side1 ?side2 ?side3 ?side4 A43.out).mono ?_); (case side1 => repeat (first | exact (Kd.N_reads' HO236.out).2.2 | (with_reducible refine Kd.C_alloc ?_ _) | (with_reducible refine Kd.C_drewN ?_ _) | (with_reducible refine Kd.C_drew ?_))); (case side2 => exact (Kd.N_reads' HO236.out).2.1); (case side3 => repeat (first | exact (Kd.N_reads' HO_5.out).2.2 | (with_reducible refine Kd.C_alloc ?_ _) | (with_reducible refine Kd.C_drewN ?_ _) | (with_reducible refine Kd.C_drew ?_))); (case side4 => exact (Kd.N_reads' HO_5.out).2.1); rintro e w74 ⟨rfl, hb⟩; have n0_ := Aside0.mk (Kd.V_below (by (with_reducible repeat (first | apply Kd.V_alloc | apply Kd.V_drewN | apply Kd.V_drew)); exact HO_0.out) hb); have n1_ := Aside0.mk (Kd.N_below (by (with_reducible repeat (first | apply Kd.N_alloc | apply Kd.N_drewN | apply Kd.N_drew)); exact HO_5.out) hb); have n2_ := Aside0.mk (Kd.N_below (by (with_reducible repeat (first | apply Kd.N_alloc | apply Kd.N_drewN | apply Kd.N_drew)); exact HO_6.out) hb); have n3_ := Aside0.mk (Kd.N_below (by (with_reducible repeat (first | apply Kd.N_alloc | apply Kd.N_drewN | apply Kd.N_drew)); exact HO232.out) hb); have n4_ := Aside0.mk (Kd.N_below (by (with_reducible repeat (first | apply Kd.N_alloc | apply Kd.N_drewN | apply Kd.N_drew)); exact HO236.out) hb); have n5_ := Aside0.mk (below_step (by repeat (first | (with_reducible first | exact HB.out | apply below_alloc | apply pw_below_drewN | apply below_drew1) | exact HB.out)) hb); clear HO_0; clear HO_5; clear HO_6; clear HO232; clear HO236; clear HB; have HO_0 := n0_; have HO_5 := n1_; have HO_6 := n2_; have HO232 := n3_; have HO236 := n4_; have HB := n5_; clear n0_ n1_ n2_ n3_ n4_ n5_; (try clear hb); (try clear hb2); (try clear hk); (try clear hi)))
                            go_ret
                            exact ⟨by first | rfl | (simp [errW_none, errW_some] <;> rfl) | (simp [*, errW_none, errW_some] <;> rfl), by repeat (first | (with_reducible first | exact HB.out | apply below_alloc | apply pw_below_drewN | apply below_drew1) | exact HB.out)⟩
                        · replace c41 := Bool.eq_false_iff.mpr c41
                          subst c41
                          have H1 : (some false) = some r := by rw [if_neg (show ¬ (false = true) by decide)] at H; exact H
                          clear H
                          have H := H1
                          clear H1
                          obtain rfl := Option.some.inj H
                          go_wp2_with (first | ((with_reducible refine gate_callee (f := 30) rfl ?_); refine goesL_ (some 71) rfl rfl Try.func30 (by kernel_rfl) rfl #[.slice A0 l0.length c0] rfl (by (try simp only [List.map_toArray, List.map_cons, List.map_nil]); first | done | rfl | (simp only [List.length_drop, List.length_take]; rfl)) ?_; (with_reducible refine (rank_Sort.calls _ _ l0 t230 _ ?side1 ?side2 A39.out).mono ?_); (case side1 => repeat (first | exact (Kd.V_reads' HO_0.out).2.2 | (with_reducible refine Kd.C_alloc ?_ _) | (with_reducible refine Kd.C_drewN ?_ _) | (with_reducible refine Kd.C_drew ?_))); (case side2 => exact (Kd.V_reads' HO_0.out).2.1); rintro e w75 ⟨v231, rfl, ho0, hb⟩; refine ⟨_, rfl, ?_⟩; have n0_ := Aside0.mk (Kd.V_elder' (by (with_reducible repeat (first | apply Kd.V_alloc | apply Kd.V_drewN | apply Kd.V_drew)); exact HO_0.out) (Kd.N_base ho0) hb); have n1_ := Aside0.mk (Kd.N_elder' (by (with_reducible repeat (first | apply Kd.N_alloc | apply Kd.N_drewN | apply Kd.N_drew)); exact HO_5.out) (Kd.N_base ho0) hb); have n2_ := Aside0.mk (Kd.N_elder' (by (with_reducible repeat (first | apply Kd.N_alloc | apply Kd.N_drewN | apply Kd.N_drew)); exact HO_6.out) (Kd.N_base ho0) hb); have n3_ := Aside0.mk (Kd.N_lower (Kd.N_mono (ok' := fun k_ => (P0_ k_ ∨ w.heap.size ≤ k_) ∧ some k_ ≠ (v216 : Value).ownBlock ∧ some k_ ≠ (u6 : Value).ownBlock) ho0 (fun k_ hk_ => ⟨(.inr (Nat.le_trans (below_size (by repeat (first | (with_reducible first | exact HB.out | apply below_alloc | apply pw_below_drewN | apply below_drew1) | exact HB.out))) hk_)), (Kd.fresh' (Kd.N_lt (by (with_reducible repeat (first | apply Kd.N_alloc | apply Kd.N_drewN | apply Kd.N_drew)); exact HO_5.out)) k_ hk_), (Kd.fresh' (Kd.N_lt (by (with_reducible repeat (first | apply Kd.N_alloc | apply Kd.N_drewN | apply Kd.N_drew)); exact HO_6.out)) k_ hk_)⟩)) (below_size (by repeat (first | (with_reducible first | exact HB.out | apply below_alloc | apply pw_below_drewN | apply below_drew1) | exact HB.out)))); have n4_ := Aside0.mk (below_step (by repeat (first | (with_reducible first | exact HB.out | apply below_alloc | apply pw_below_drewN | apply below_drew1) | exact HB.out)) hb); clear HO_0; clear HO_5; clear HO_6; clear HB; have HO_0 := n0_; have HO_5 := n1_; have HO_6 := n2_; have HO232 := n3_; have HB := n4_; clear n0_ n1_ n2_ n3_ n4_; (try clear hb); (try clear hb2); (try clear hk); (try clear hi); (try clear ho0); obtain ⟨Ao76, co76, eo76⟩ := Kd.N_slice HO232.out; subst eo76; obtain ⟨Ao77, co77, eo77⟩ := Kd.N_slice HO_5.out; subst eo77) | ((with_reducible refine gate_callee (f := 29) rfl ?_); refine goesL_ (some 73) rfl rfl Try.func29 (by kernel_rfl) rfl #[.slice Ao76 t230.length co76, .slice Ao77 t215.length co77] rfl (by (try simp only [List.map_toArray, List.map_cons, List.map_nil]); first | done | rfl | (simp only [List.length_drop, List.length_take]; rfl)) ?_; (with_reducible refine (paronymref28_Same.calls k4 _ _ t230 _ _ t215 false _ ?side1 ?side2 ?side3 ?side4 A40.out).mono ?_); (case side1 => repeat (first | exact (Kd.N_reads' HO232.out).2.2 | (with_reducible refine Kd.C_alloc ?_ _) | (with_reducible refine Kd.C_drewN ?_ _) | (with_reducible refine Kd.C_drew ?_))); (case side2 => exact (Kd.N_reads' HO232.out).2.1); (case side3 => repeat (first | exact (Kd.N_reads' HO_5.out).2.2 | (with_reducible refine Kd.C_alloc ?_ _) | (with_reducible refine Kd.C_drewN ?_ _) | (with_reducible refine Kd.C_drew ?_))); (case side4 => exact (Kd.N_reads' HO_5.out).2.1); rintro e w78 ⟨rfl, hb⟩; refine ⟨_, rfl, ?_⟩; have n0_ := Aside0.mk (Kd.V_below (by (with_reducible repeat (first | apply Kd.V_alloc | apply Kd.V_drewN | apply Kd.V_drew)); exact HO_0.out) hb); have n1_ := Aside0.mk (Kd.N_below (by (with_reducible repeat (first | apply Kd.N_alloc | apply Kd.N_drewN | apply Kd.N_drew)); exact HO_5.out) hb); have n2_ := Aside0.mk (Kd.N_below (by (with_reducible repeat (first | apply Kd.N_alloc | apply Kd.N_drewN | apply Kd.N_drew)); exact HO_6.out) hb); have n3_ := Aside0.mk (Kd.N_below (by (with_reducible repeat (first | apply Kd.N_alloc | apply Kd.N_drewN | apply Kd.N_drew)); exact HO232.out) hb); have n4_ := Aside0.mk (below_step (by repeat (first | (with_reducible first | exact HB.out | apply below_alloc | apply pw_below_drewN | apply below_drew1) | exact HB.out)) hb); clear HO_0; clear HO_5; clear HO_6; clear HO232; clear HB; have HO_0 := n0_; have HO_5 := n1_; have HO_6 := n2_; have HO232 := n3_; have HB := n4_; clear n0_ n1_ n2_ n3_ n4_; (try clear hb); (try clear hb2); (try clear hk); (try clear hi)))
                          go_ret
                          exact ⟨by first | rfl | (simp [errW_none, errW_some] <;> rfl) | (simp [*, errW_none, errW_some] <;> rfl), by repeat (first | (with_reducible first | exact HB.out | apply below_alloc | apply pw_below_drewN | apply below_drew1) | exact HB.out)⟩

end Go.Proofs.Ytgfmplhpoblleaa.PRankL
