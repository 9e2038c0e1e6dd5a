-- PRINTED BY print.sh 35421559b90ae4d0a3588c463048766b98c2df88dd9212a6774a882060cdf62d: not written by this session
import Derived.Test.YtgfmplhpoblleaaPHangulBackx0
import Derived.Test.YtgfmplhpoblleaaPHangulBackx1
namespace Go.Proofs.Ytgfmplhpoblleaa.PHangulBack
open Go.RowKit Go.Proofs.YtgfmplhpoblleaaW.PrintWords Go.Proofs.YtgfmplhpoblleaaW.PrintLast Go.Proofs.YtgfmplhpoblleaaW.PrintMore
attribute [local go_sem] max2_int min2_int max_two min_two max_three min_three max_four min_four   -- for this text's walks alone
set_option linter.unusedVariables false
set_option linter.unusedSimpArgs false

/-! ### paronymlaw08_HangulBack: function 5 -/
def paronymlaw08_HangulBack.j0 : Nat → Int → List Int → Bool → Option (Bool)
  | 0, _, _, _ => none
  | k + 1, x3, x4, x22 => if x22 = true then (some false) else (if 0 < (x4.length : Int) then (if 1 < (x4.length : Int) then ((hangul_Together.f k (rd x4 0) (rd x4 1)).bind fun bt135 => (if (x4.length : Int) = 3 then (if bt135.2 = true then (if 2 < (x4.length : Int) then ((hangul_Together.f k bt135.1 (rd x4 2)).bind fun bt138 => (if bt138.2 = true then (some (bt138.1 == x3)) else (some false))) else (none)) else (some false)) else (if bt135.2 = true then (some (bt135.1 == x3)) else (some false)))) else (none)) else (none))
def paronymlaw08_HangulBack.f (k : Nat) (a0 : Int) : Option (Bool) := (paronymlaw08_awake.f k).bind fun t129 => (if t129 = true then ((hangul_Apart.f (wrap64 (44032 + (Int.tmod (wrap64 (a0)) 11172)))).bind fun t130 => (if (t130.length : Int) < 2 then (paronymlaw08_HangulBack.j0 k (wrap64 (44032 + (Int.tmod (wrap64 (a0)) 11172))) t130 true) else (paronymlaw08_HangulBack.j0 k (wrap64 (44032 + (Int.tmod (wrap64 (a0)) 11172))) t130 (decide ((t130.length : Int) > 3))))) else (some false))
theorem paronymlaw08_HangulBack.mono_l : ∀ k, (∀ y0 y1 y2, LeO (paronymlaw08_HangulBack.j0 k y0 y1 y2) (paronymlaw08_HangulBack.j0 (k + 1) y0 y1 y2))
  | 0 => fun _ _ _ r h => by simp [paronymlaw08_HangulBack.j0] at h
  | k + 1 => by
    have ih0 := paronymlaw08_HangulBack.mono_l k
    · intro y0 y1 y2
      unfold paronymlaw08_HangulBack.j0
      repeat' first
      | (with_reducible exact ih0 _ _ _)
      | (with_reducible exact hangul_Together.mono _ _ _)
      | (with_reducible exact paronymlaw08_awake.mono _)
      | (with_reducible exact LeO.refl _)
      | (with_reducible exact LeO.none _)
      | (with_reducible refine LeO.ite ?_ ?_)
      | (with_reducible refine LeO.bind ?_ (fun _ => ?_))
      | exact ih0 _ _ _
      | exact hangul_Together.mono _ _ _
      | exact paronymlaw08_awake.mono _
      | exact LeO.none _
      | refine LeO.ite ?_ ?_
      | refine LeO.bind ?_ (fun _ => ?_)
theorem paronymlaw08_HangulBack.mono : ∀ a0 k, LeO (paronymlaw08_HangulBack.f k a0) (paronymlaw08_HangulBack.f (k + 1) a0) := by
  intro a0 k
  have ih0 := paronymlaw08_HangulBack.mono_l k
  unfold paronymlaw08_HangulBack.f
  repeat' first
      | (with_reducible exact ih0 _ _ _)
      | (with_reducible exact hangul_Together.mono _ _ _)
      | (with_reducible exact paronymlaw08_awake.mono _)
      | (with_reducible exact LeO.refl _)
      | (with_reducible exact LeO.none _)
      | (with_reducible refine LeO.ite ?_ ?_)
      | (with_reducible refine LeO.bind ?_ (fun _ => ?_))
      | exact ih0 _ _ _
      | exact hangul_Together.mono _ _ _
      | exact paronymlaw08_awake.mono _
      | exact LeO.none _
      | refine LeO.ite ?_ ?_
      | refine LeO.bind ?_ (fun _ => ?_)
set_option maxHeartbeats 8000000 in
set_option maxRecDepth 100000 in
theorem paronymlaw08_HangulBack.calls (k : Nat) (a0 : Int) (r : Bool) (w : World) (h : paronymlaw08_HangulBack.f k a0 = some r) :
    Calls Try.prog 5 #[.int .u16 a0] w fun e w' => e = .returned (.bool r) ∧ Below w.heap.size w w' := by
  have HB := Aside0.mk (Below.refl w.heap.size w)
  have H : ((paronymlaw08_awake.f k).bind fun t129 => (if t129 = true then ((hangul_Apart.f (wrap64 (44032 + (Int.tmod (wrap64 (a0)) 11172)))).bind fun t130 => (if (t130.length : Int) < 2 then (paronymlaw08_HangulBack.j0 k (wrap64 (44032 + (Int.tmod (wrap64 (a0)) 11172))) t130 true) else (paronymlaw08_HangulBack.j0 k (wrap64 (44032 + (Int.tmod (wrap64 (a0)) 11172))) t130 (decide ((t130.length : Int) > 3))))) else (some false))) = some r := h
  clear h
  replace H := Option.bind_eq_some_iff.mp H
  obtain ⟨t129, A20, H⟩ := H
  replace H : (if t129 = true then ((hangul_Apart.f (wrap64 (44032 + (Int.tmod (wrap64 (a0)) 11172)))).bind fun t130 => (if (t130.length : Int) < 2 then (paronymlaw08_HangulBack.j0 k (wrap64 (44032 + (Int.tmod (wrap64 (a0)) 11172))) t130 true) else (paronymlaw08_HangulBack.j0 k (wrap64 (44032 + (Int.tmod (wrap64 (a0)) 11172))) t130 (decide ((t130.length : Int) > 3))))) else (some false)) = some r := H
  have A2 := Aside0.mk A20
  clear A20
  by_cases c3 : t129 = true
  · subst c3
    have H1 : ((hangul_Apart.f (wrap64 (44032 + (Int.tmod (wrap64 (a0)) 11172)))).bind fun t130 => (if (t130.length : Int) < 2 then (paronymlaw08_HangulBack.j0 k (wrap64 (44032 + (Int.tmod (wrap64 (a0)) 11172))) t130 true) else (paronymlaw08_HangulBack.j0 k (wrap64 (44032 + (Int.tmod (wrap64 (a0)) 11172))) t130 (decide ((t130.length : Int) > 3))))) = some r := by rw [if_pos rfl] at H; exact H
    clear H
    have H := H1
    clear H1
    replace H := Option.bind_eq_some_iff.mp H
    obtain ⟨t130, A40, H⟩ := H
    replace H : (if (t130.length : Int) < 2 then (paronymlaw08_HangulBack.j0 k (wrap64 (44032 + (Int.tmod (wrap64 (a0)) 11172))) t130 true) else (paronymlaw08_HangulBack.j0 k (wrap64 (44032 + (Int.tmod (wrap64 (a0)) 11172))) t130 (decide ((t130.length : Int) > 3)))) = some r := H
    have A4 := Aside0.mk A40
    clear A40
    have HC5 := Aside0.mk H
    clear H
    go_enter Try.func5, Try.ntmps5
    go_upto_region 5 with (first | (go_at_call 16; (with_reducible refine (paronymlaw08_awake.calls k  true _ A2.out).mono ?_); rintro e w6 ⟨rfl, hb⟩; have n0_ := Aside0.mk (below_step (by repeat (first | (with_reducible first | exact HB.out | apply below_alloc | apply pw_below_drewN | apply below_drew1) | exact HB.out)) hb); clear HB; have HB := n0_; clear n0_; (try clear hb); (try clear hb2); (try clear hk); (try clear hi)) | (go_at_call 17; (with_reducible refine (hangul_Apart.calls (wrap64 (44032 + (Int.tmod (wrap64 (a0)) 11172))) t130 _ A4.out).mono ?_); rintro e w7 ⟨v131, rfl, ho0, hb⟩; have n0_ := Aside0.mk (Kd.R_lower ho0 (below_size (by repeat (first | (with_reducible first | exact HB.out | apply below_alloc | apply pw_below_drewN | apply below_drew1) | exact HB.out)))); have n1_ := Aside0.mk (below_step (by repeat (first | (with_reducible first | exact HB.out | apply below_alloc | apply pw_below_drewN | apply below_drew1) | exact HB.out)) hb); clear HB; have HO132 := n0_; have HB := n1_; clear n0_ n1_; (try clear hb); (try clear hb2); (try clear hk); (try clear hi); (try clear ho0)))
    repeat (go_quiet (first | (go_at_call 16; (with_reducible refine (paronymlaw08_awake.calls k  true _ A2.out).mono ?_); rintro e w6 ⟨rfl, hb⟩; have n0_ := Aside0.mk (below_step (by repeat (first | (with_reducible first | exact HB.out | apply below_alloc | apply pw_below_drewN | apply below_drew1) | exact HB.out)) hb); clear HB; have HB := n0_; clear n0_; (try clear hb); (try clear hb2); (try clear hk); (try clear hi)) | (go_at_call 17; (with_reducible refine (hangul_Apart.calls (wrap64 (44032 + (Int.tmod (wrap64 (a0)) 11172))) t130 _ A4.out).mono ?_); rintro e w7 ⟨v131, rfl, ho0, hb⟩; have n0_ := Aside0.mk (Kd.R_lower ho0 (below_size (by repeat (first | (with_reducible first | exact HB.out | apply below_alloc | apply pw_below_drewN | apply below_drew1) | exact HB.out)))); have n1_ := Aside0.mk (below_step (by repeat (first | (with_reducible first | exact HB.out | apply below_alloc | apply pw_below_drewN | apply below_drew1) | exact HB.out)) hb); clear HB; have HO132 := n0_; have HB := n1_; clear n0_ n1_; (try clear hb); (try clear hb2); (try clear hk); (try clear hi); (try clear ho0))); go_upto_region 5 with (first | (go_at_call 16; (with_reducible refine (paronymlaw08_awake.calls k  true _ A2.out).mono ?_); rintro e w6 ⟨rfl, hb⟩; have n0_ := Aside0.mk (below_step (by repeat (first | (with_reducible first | exact HB.out | apply below_alloc | apply pw_below_drewN | apply below_drew1) | exact HB.out)) hb); clear HB; have HB := n0_; clear n0_; (try clear hb); (try clear hb2); (try clear hk); (try clear hi)) | (go_at_call 17; (with_reducible refine (hangul_Apart.calls (wrap64 (44032 + (Int.tmod (wrap64 (a0)) 11172))) t130 _ A4.out).mono ?_); rintro e w7 ⟨v131, rfl, ho0, hb⟩; have n0_ := Aside0.mk (Kd.R_lower ho0 (below_size (by repeat (first | (with_reducible first | exact HB.out | apply below_alloc | apply pw_below_drewN | apply below_drew1) | exact HB.out)))); have n1_ := Aside0.mk (below_step (by repeat (first | (with_reducible first | exact HB.out | apply below_alloc | apply pw_below_drewN | apply below_drew1) | exact HB.out)) hb); clear HB; have HO132 := n0_; have HB := n1_; clear n0_ n1_; (try clear hb); (try clear hb2); (try clear hk); (try clear hi); (try clear ho0))))
    (try simp only [Act.put, List.setIfInBounds_toArray, List.set_cons_zero, List.set_cons_succ])
    go_cut [22] (fun v22 wc => ∃ (kq : Nat) (x22_4 : Bool), v22 = .bool x22_4 ∧ Aside0 (paronymlaw08_HangulBack.j0 kq (wrap64 (44032 + (Int.tmod (wrap64 (a0)) 11172))) t130 x22_4 = some r) ∧ Aside0 (kq ≤ k) ∧ Aside0 (Kd.R (Kd.int .i64) 3 wc w.heap.size (fun _ => True) v131 t130) ∧ Aside0 (Below w.heap.size w wc))
    case first =>
      have H := HC5.out
      clear HC5
      by_cases c8 : (t130.length : Int) < 2
      · rw [if_pos c8] at H
        have c8b0 : decide ((t130.length : Int) < 2) = true := decide_eq_true c8
        have c8b1 : decide (t130.length < 2) = true := decide_eq_true (by omega)
        clear c8
        (first | rw [c8b0] | (simp only [i64_w, i32_w]; rw [c8b0]) | skip)
        have H' := Aside0.mk H
        clear H
        obtain ⟨Ao9, co9, eo9⟩ := Kd.R_slice HO132.out
        subst eo9
        go_wp2
        repeat (go_quiet (fail); try go_wp2)
        go_meet
        case rel => exact ⟨_, (true), (by first | rfl | (simp; done) | (simp [*]; done)), H', ⟨by first | omega | exact Nat.le_refl _⟩, ⟨by (with_reducible repeat (first | apply Kd.R_alloc | apply Kd.R_drewN | apply Kd.R_drew)); exact HO132.out⟩, ⟨by repeat (first | (with_reducible first | exact HB.out | apply below_alloc | apply pw_below_drewN | apply below_drew1) | exact HB.out)⟩⟩
      · rw [if_neg c8] at H
        have c8b0 : decide ((t130.length : Int) < 2) = false := decide_eq_false c8
        have c8b1 : decide (t130.length < 2) = false := decide_eq_false (by omega)
        clear c8
        (first | rw [c8b0] | (simp only [i64_w, i32_w]; rw [c8b0]) | skip)
        have H' := Aside0.mk H
        clear H
        obtain ⟨Ao10, co10, eo10⟩ := Kd.R_slice HO132.out
        subst eo10
        go_wp2
        repeat (go_quiet (fail); try go_wp2)
        go_meet
        case rel => exact ⟨_, (decide ((t130.length : Int) > 3)), (by first | rfl | (simp; done) | (simp [*]; done)), H', ⟨by first | omega | exact Nat.le_refl _⟩, ⟨by (with_reducible repeat (first | apply Kd.R_alloc | apply Kd.R_drewN | apply Kd.R_drew)); exact HO132.out⟩, ⟨by repeat (first | (with_reducible first | exact HB.out | apply below_alloc | apply pw_below_drewN | apply below_drew1) | exact HB.out)⟩⟩
    case rest =>
      clear HC5
      try clear p2
      try clear c3
      try clear c5
      try clear p6
      try clear c8
      try clear c8b0
      try clear c8b1
      obtain ⟨kq, x22_4, rfl, HA, HJ4, HO_4, HB⟩ := hcut
      cases kq with
      | zero => exact absurd HA.out (by simp [paronymlaw08_HangulBack.j0])
      | succ kj4 =>
        have H := HA.out
        clear HA
        simp only [paronymlaw08_HangulBack.j0] at H
        by_cases c11 : x22_4 = true
        · subst c11
          have H1 : (some false) = some r := by rw [if_pos rfl] at H; exact H
          clear H
          have H := H1
          clear H1
          obtain rfl := Option.some.inj H
          go_wp2
          repeat (go_quiet (fail); try go_wp2)
          go_ret
          exact ⟨by first | rfl | (simp [errW_none, errW_some] <;> rfl) | (simp [*, errW_none, errW_some] <;> rfl), by repeat (first | (with_reducible first | exact HB.out | apply below_alloc | apply pw_below_drewN | apply below_drew1) | exact HB.out)⟩
        · replace c11 := Bool.eq_false_iff.mpr c11
          subst c11
          have H1 : (if 0 < (t130.length : Int) then (if 1 < (t130.length : Int) then ((hangul_Together.f kj4 (rd t130 0) (rd t130 1)).bind fun bt135 => (if (t130.length : Int) = 3 then (if bt135.2 = true then (if 2 < (t130.length : Int) then ((hangul_Together.f kj4 bt135.1 (rd t130 2)).bind fun bt138 => (if bt138.2 = true then (some (bt138.1 == (wrap64 (44032 + (Int.tmod (wrap64 (a0)) 11172))))) else (some false))) else (none)) else (some false)) else (if bt135.2 = true then (some (bt135.1 == (wrap64 (44032 + (Int.tmod (wrap64 (a0)) 11172))))) else (some false)))) else (none)) else (none)) = some r := by rw [if_neg (show ¬ (false = true) by decide)] at H; exact H
          clear H
          have H := H1
          clear H1
          by_cases c12 : 0 < (t130.length : Int)
          · rw [if_pos c12] at H
            have c12b0 : decide (0 < (t130.length : Int)) = true := decide_eq_true c12
            have c12b1 : decide (0 < t130.length) = true := decide_eq_true (by omega)
            clear c12
            by_cases c13 : 1 < (t130.length : Int)
            · rw [if_pos c13] at H
              have c13b0 : decide (1 < (t130.length : Int)) = true := decide_eq_true c13
              have c13b1 : decide (1 < t130.length) = true := decide_eq_true (by omega)
              clear c13
              replace H := Option.bind_eq_some_iff.mp H
              obtain ⟨⟨t135, t136⟩, A140, H⟩ := H
              replace H : (if (t130.length : Int) = 3 then (if t136 = true then (if 2 < (t130.length : Int) then ((hangul_Together.f kj4 t135 (rd t130 2)).bind fun bt138 => (if bt138.2 = true then (some (bt138.1 == (wrap64 (44032 + (Int.tmod (wrap64 (a0)) 11172))))) else (some false))) else (none)) else (some false)) else (if t136 = true then (some (t135 == (wrap64 (44032 + (Int.tmod (wrap64 (a0)) 11172))))) else (some false))) = some r := H
              have A14 := Aside0.mk A140
              clear A140
              by_cases c15 : (t130.length : Int) = 3
              · rw [if_pos c15] at H
                have c15b0 : ((t130.length : Int) == 3) = true := beq_iff_eq.mpr c15
                have c15b1 : ((t130.length : Int) != 3) = false := bne_eq_false_iff_eq.mpr c15
                clear c15
                by_cases c16 : t136 = true
                · subst c16
                  have H1 : (if 2 < (t130.length : Int) then ((hangul_Together.f kj4 t135 (rd t130 2)).bind fun bt138 => (if bt138.2 = true then (some (bt138.1 == (wrap64 (44032 + (Int.tmod (wrap64 (a0)) 11172))))) else (some false))) else (none)) = some r := by rw [if_pos rfl] at H; exact H
                  clear H
                  have H := H1
                  clear H1
                  by_cases c17 : 2 < (t130.length : Int)
                  · rw [if_pos c17] at H
                    have c17b0 : decide (2 < (t130.length : Int)) = true := decide_eq_true c17
                    have c17b1 : decide (2 < t130.length) = true := decide_eq_true (by omega)
                    clear c17
                    replace H := Option.bind_eq_some_iff.mp H
                    obtain ⟨⟨t138, t139⟩, A180, H⟩ := H
                    replace H : (if t139 = true then (some (t138 == (wrap64 (44032 + (Int.tmod (wrap64 (a0)) 11172))))) else (some false)) = some r := H
                    have A18 := Aside0.mk A180
                    clear A180
                    by_cases c19 : t139 = true
                    · subst c19
                      have H1 : (some (t138 == (wrap64 (44032 + (Int.tmod (wrap64 (a0)) 11172))))) = some r := by rw [if_pos rfl] at H; exact H
                      clear H
                      have H := H1
                      clear H1
                      obtain rfl := Option.some.inj H
                      obtain ⟨Ao20, co20, eo20⟩ := Kd.R_slice HO_4.out
                      subst eo20
                      have p133 : 0 ≤ (0 : Int) := (by omega)
                      have q133 : 0 < (t130.length : Int) := of_decide_eq_true (by first | (with_reducible assumption) | assumption)
                      obtain ⟨ad133, e133, hx133_0⟩ := Kd.at_int (Kd.R_reads' HO_4.out).2.2 0 p133 q133
                      cases e133
                      have qi133 : (0 < t130.length) = True := eq_true (by omega)
                      (try rw [show ((0 : Int)).toNat = 0 from rfl] at hx133_0)
                      (try rw [Addr.add_zero'] at hx133_0)
                      replace p133 := eq_true p133
                      replace q133 := eq_true q133
                      have p134 : 0 ≤ (1 : Int) := (by omega)
                      have q134 : 1 < (t130.length : Int) := of_decide_eq_true (by first | (with_reducible assumption) | assumption)
                      obtain ⟨ad134, e134, hx134_0⟩ := Kd.at_int (Kd.R_reads' HO_4.out).2.2 1 p134 q134
                      obtain rfl : ad133 = ad134 := (by injection e134)
                      (try simp only [show (1 : Int).toNat = 1 from rfl, Nat.reduceMul, Nat.reduceEqDiff, Go.Addr.add, ↓reduceIte] at hx134_0)
                      have qi134 : (1 < t130.length) = True := eq_true (by omega)
                      (try rw [show ((1 : Int)).toNat = 1 from rfl] at hx134_0)
                      replace p134 := eq_true p134
                      replace q134 := eq_true q134
                      go_wp2_with (first | (go_at_call 21; (with_reducible refine (hangul_Together.calls kj4 (rd t130 0) (rd t130 1) t135 true _ A14.out).mono ?_); rintro e w' ⟨rfl, ⟨nd, rfl⟩⟩; (try first | exact ⟨rfl, _, World.drewN_drewN _ _ _⟩ | exact ⟨rfl, _, Eq.trans (World.drewN_drewN _ _ _) (congrArg (World.drewN _) (Nat.add_assoc _ _ _))⟩); have p137 : 0 ≤ (2 : Int) := (by omega); have q137 : 2 < (t130.length : Int) := of_decide_eq_true (by first | (with_reducible assumption) | assumption); obtain ⟨ad137, e137, hx137_0⟩ := Kd.at_int (Kd.R_reads' HO_4.out).2.2 2 p137 q137; obtain rfl : ad133 = ad137 := (by injection e137); (try simp only [show (2 : Int).toNat = 2 from rfl, Nat.reduceMul, Nat.reduceEqDiff, Go.Addr.add, ↓reduceIte] at hx137_0); have qi137 : (2 < t130.length) = True := eq_true (by omega); (try rw [show ((2 : Int)).toNat = 2 from rfl] at hx137_0); replace p137 := eq_true p137; replace q137 := eq_true q137) | (go_at_call 21; (with_reducible refine (hangul_Together.calls kj4 t135 (rd t130 2) t138 true _ A18.out).mono ?_); rintro e w' ⟨rfl, ⟨nd, rfl⟩⟩; (try first | exact ⟨rfl, _, World.drewN_drewN _ _ _⟩ | exact ⟨rfl, _, Eq.trans (World.drewN_drewN _ _ _) (congrArg (World.drewN _) (Nat.add_assoc _ _ _))⟩)))
                      repeat (go_quiet (first | (go_at_call 21; (with_reducible refine (hangul_Together.calls kj4 (rd t130 0) (rd t130 1) t135 true _ A14.out).mono ?_); rintro e w' ⟨rfl, ⟨nd, rfl⟩⟩; (try first | exact ⟨rfl, _, World.drewN_drewN _ _ _⟩ | exact ⟨rfl, _, Eq.trans (World.drewN_drewN _ _ _) (congrArg (World.drewN _) (Nat.add_assoc _ _ _))⟩); have p137 : 0 ≤ (2 : Int) := (by omega); have q137 : 2 < (t130.length : Int) := of_decide_eq_true (by first | (with_reducible assumption) | assumption); obtain ⟨ad137, e137, hx137_0⟩ := Kd.at_int (Kd.R_reads' HO_4.out).2.2 2 p137 q137; obtain rfl : ad133 = ad137 := (by injection e137); (try simp only [show (2 : Int).toNat = 2 from rfl, Nat.reduceMul, Nat.reduceEqDiff, Go.Addr.add, ↓reduceIte] at hx137_0); have qi137 : (2 < t130.length) = True := eq_true (by omega); (try rw [show ((2 : Int)).toNat = 2 from rfl] at hx137_0); replace p137 := eq_true p137; replace q137 := eq_true q137) | (go_at_call 21; (with_reducible refine (hangul_Together.calls kj4 t135 (rd t130 2) t138 true _ A18.out).mono ?_); rintro e w' ⟨rfl, ⟨nd, rfl⟩⟩; (try first | exact ⟨rfl, _, World.drewN_drewN _ _ _⟩ | exact ⟨rfl, _, Eq.trans (World.drewN_drewN _ _ _) (congrArg (World.drewN _) (Nat.add_assoc _ _ _))⟩))); try go_wp2_with (first | (go_at_call 21; (with_reducible refine (hangul_Together.calls kj4 (rd t130 0) (rd t130 1) t135 true _ A14.out).mono ?_); rintro e w' ⟨rfl, ⟨nd, rfl⟩⟩; (try first | exact ⟨rfl, _, World.drewN_drewN _ _ _⟩ | exact ⟨rfl, _, Eq.trans (World.drewN_drewN _ _ _) (congrArg (World.drewN _) (Nat.add_assoc _ _ _))⟩); have p137 : 0 ≤ (2 : Int) := (by omega); have q137 : 2 < (t130.length : Int) := of_decide_eq_true (by first | (with_reducible assumption) | assumption); obtain ⟨ad137, e137, hx137_0⟩ := Kd.at_int (Kd.R_reads' HO_4.out).2.2 2 p137 q137; obtain rfl : ad133 = ad137 := (by injection e137); (try simp only [show (2 : Int).toNat = 2 from rfl, Nat.reduceMul, Nat.reduceEqDiff, Go.Addr.add, ↓reduceIte] at hx137_0); have qi137 : (2 < t130.length) = True := eq_true (by omega); (try rw [show ((2 : Int)).toNat = 2 from rfl] at hx137_0); replace p137 := eq_true p137; replace q137 := eq_true q137) | (go_at_call 21; (with_reducible refine (hangul_Together.calls kj4 t135 (rd t130 2) t138 true _ A18.out).mono ?_); rintro e w' ⟨rfl, ⟨nd, rfl⟩⟩; (try first | exact ⟨rfl, _, World.drewN_drewN _ _ _⟩ | exact ⟨rfl, _, Eq.trans (World.drewN_drewN _ _ _) (congrArg (World.drewN _) (Nat.add_assoc _ _ _))⟩))))
                      go_ret
                      exact ⟨by first | rfl | (simp [errW_none, errW_some] <;> rfl) | (simp [*, errW_none, errW_some] <;> rfl), by repeat (first | (with_reducible first | exact HB.out | apply below_alloc | apply pw_below_drewN | apply below_drew1) | exact HB.out)⟩
                    · replace c19 := Bool.eq_false_iff.mpr c19
                      subst c19
                      have H1 : (some false) = some r := by rw [if_neg (show ¬ (false = true) by decide)] at H; exact H
                      clear H
                      have H := H1
                      clear H1
                      obtain rfl := Option.some.inj H
                      obtain ⟨Ao21, co21, eo21⟩ := Kd.R_slice HO_4.out
                      subst eo21
                      have p133 : 0 ≤ (0 : Int) := (by omega)
                      have q133 : 0 < (t130.length : Int) := of_decide_eq_true (by first | (with_reducible assumption) | assumption)
                      obtain ⟨ad133, e133, hx133_0⟩ := Kd.at_int (Kd.R_reads' HO_4.out).2.2 0 p133 q133
                      cases e133
                      have qi133 : (0 < t130.length) = True := eq_true (by omega)
                      (try rw [show ((0 : Int)).toNat = 0 from rfl] at hx133_0)
                      (try rw [Addr.add_zero'] at hx133_0)
                      replace p133 := eq_true p133
                      replace q133 := eq_true q133
                      have p134 : 0 ≤ (1 : Int) := (by omega)
                      have q134 : 1 < (t130.length : Int) := of_decide_eq_true (by first | (with_reducible assumption) | assumption)
                      obtain ⟨ad134, e134, hx134_0⟩ := Kd.at_int (Kd.R_reads' HO_4.out).2.2 1 p134 q134
                      obtain rfl : ad133 = ad134 := (by injection e134)
                      (try simp only [show (1 : Int).toNat = 1 from rfl, Nat.reduceMul, Nat.reduceEqDiff, Go.Addr.add, ↓reduceIte] at hx134_0)
                      have qi134 : (1 < t130.length) = True := eq_true (by omega)
                      (try rw [show ((1 : Int)).toNat = 1 from rfl] at hx134_0)
                      replace p134 := eq_true p134
                      replace q134 := eq_true q134
                      go_wp2_with (first | (go_at_call 21; (with_reducible refine (hangul_Together.calls kj4 (rd t130 0) (rd t130 1) t135 true _ A14.out).mono ?_); rintro e w' ⟨rfl, ⟨nd, rfl⟩⟩; (try first | exact ⟨rfl, _, World.drewN_drewN _ _ _⟩ | exact ⟨rfl, _, Eq.trans (World.drewN_drewN _ _ _) (congrArg (World.drewN _) (Nat.add_assoc _ _ _))⟩); have p137 : 0 ≤ (2 : Int) := (by omega); have q137 : 2 < (t130.length : Int) := of_decide_eq_true (by first | (with_reducible assumption) | assumption); obtain ⟨ad137, e137, hx137_0⟩ := Kd.at_int (Kd.R_reads' HO_4.out).2.2 2 p137 q137; obtain rfl : ad133 = ad137 := (by injection e137); (try simp only [show (2 : Int).toNat = 2 from rfl, Nat.reduceMul, Nat.reduceEqDiff, Go.Addr.add, ↓reduceIte] at hx137_0); have qi137 : (2 < t130.length) = True := eq_true (by omega); (try rw [show ((2 : Int)).toNat = 2 from rfl] at hx137_0); replace p137 := eq_true p137; replace q137 := eq_true q137) | (go_at_call 21; (with_reducible refine (hangul_Together.calls kj4 t135 (rd t130 2) t138 false _ A18.out).mono ?_); rintro e w' ⟨rfl, ⟨nd, rfl⟩⟩; (try first | exact ⟨rfl, _, World.drewN_drewN _ _ _⟩ | exact ⟨rfl, _, Eq.trans (World.drewN_drewN _ _ _) (congrArg (World.drewN _) (Nat.add_assoc _ _ _))⟩)))
                      repeat (go_quiet (first | (go_at_call 21; (with_reducible refine (hangul_Together.calls kj4 (rd t130 0) (rd t130 1) t135 true _ A14.out).mono ?_); rintro e w' ⟨rfl, ⟨nd, rfl⟩⟩; (try first | exact ⟨rfl, _, World.drewN_drewN _ _ _⟩ | exact ⟨rfl, _, Eq.trans (World.drewN_drewN _ _ _) (congrArg (World.drewN _) (Nat.add_assoc _ _ _))⟩); have p137 : 0 ≤ (2 : Int) := (by omega); have q137 : 2 < (t130.length : Int) := of_decide_eq_true (by first | (with_reducible assumption) | assumption); obtain ⟨ad137, e137, hx137_0⟩ := Kd.at_int (Kd.R_reads' HO_4.out).2.2 2 p137 q137; obtain rfl : ad133 = ad137 := (by injection e137); (try simp only [show (2 : Int).toNat = 2 from rfl, Nat.reduceMul, Nat.reduceEqDiff, Go.Addr.add, ↓reduceIte] at hx137_0); have qi137 : (2 < t130.length) = True := eq_true (by omega); (try rw [show ((2 : Int)).toNat = 2 from rfl] at hx137_0); replace p137 := eq_true p137; replace q137 := eq_true q137) | (go_at_call 21; (with_reducible refine (hangul_Together.calls kj4 t135 (rd t130 2) t138 false _ A18.out).mono ?_); rintro e w' ⟨rfl, ⟨nd, rfl⟩⟩; (try first | exact ⟨rfl, _, World.drewN_drewN _ _ _⟩ | exact ⟨rfl, _, Eq.trans (World.drewN_drewN _ _ _) (congrArg (World.drewN _) (Nat.add_assoc _ _ _))⟩))); try go_wp2_with (first | (go_at_call 21; (with_reducible refine (hangul_Together.calls kj4 (rd t130 0) (rd t130 1) t135 true _ A14.out).mono ?_); rintro e w' ⟨rfl, ⟨nd, rfl⟩⟩; (try first | exact ⟨rfl, _, World.drewN_drewN _ _ _⟩ | exact ⟨rfl, _, Eq.trans (World.drewN_drewN _ _ _) (congrArg (World.drewN _) (Nat.add_assoc _ _ _))⟩); have p137 : 0 ≤ (2 : Int) := (by omega); have q137 : 2 < (t130.length : Int) := of_decide_eq_true (by first | (with_reducible assumption) | assumption); obtain ⟨ad137, e137, hx137_0⟩ := Kd.at_int (Kd.R_reads' HO_4.out).2.2 2 p137 q137; obtain rfl : ad133 = ad137 := (by injection e137); (try simp only [show (2 : Int).toNat = 2 from rfl, Nat.reduceMul, Nat.reduceEqDiff, Go.Addr.add, ↓reduceIte] at hx137_0); have qi137 : (2 < t130.length) = True := eq_true (by omega); (try rw [show ((2 : Int)).toNat = 2 from rfl] at hx137_0); replace p137 := eq_true p137; replace q137 := eq_true q137) | (go_at_call 21; (with_reducible refine (hangul_Together.calls kj4 t135 (rd t130 2) t138 false _ A18.out).mono ?_); rintro e w' ⟨rfl, ⟨nd, rfl⟩⟩; (try first | exact ⟨rfl, _, World.drewN_drewN _ _ _⟩ | exact ⟨rfl, _, Eq.trans (World.drewN_drewN _ _ _) (congrArg (World.drewN _) (Nat.add_assoc _ _ _))⟩))))
                      go_ret
                      exact ⟨by first | rfl | (simp [errW_none, errW_some] <;> rfl) | (simp [*, errW_none, errW_some] <;> rfl), by repeat (first | (with_reducible first | exact HB.out | apply below_alloc | apply pw_below_drewN | apply below_drew1) | exact HB.out)⟩
                  · rw [if_neg c17] at H
                    exact absurd H (by simp)
                · replace c16 := Bool.eq_false_iff.mpr c16
                  subst c16
                  have H1 : (some false) = some r := by rw [if_neg (show ¬ (false = true) by decide)] at H; exact H
                  clear H
                  have H := H1
                  clear H1
                  obtain rfl := Option.some.inj H
                  obtain ⟨Ao22, co22, eo22⟩ := Kd.R_slice HO_4.out
                  subst eo22
                  have p133 : 0 ≤ (0 : Int) := (by omega)
                  have q133 : 0 < (t130.length : Int) := of_decide_eq_true (by first | (with_reducible assumption) | assumption)
                  obtain ⟨ad133, e133, hx133_0⟩ := Kd.at_int (Kd.R_reads' HO_4.out).2.2 0 p133 q133
                  cases e133
                  have qi133 : (0 < t130.length) = True := eq_true (by omega)
                  (try rw [show ((0 : Int)).toNat = 0 from rfl] at hx133_0)
                  (try rw [Addr.add_zero'] at hx133_0)
                  replace p133 := eq_true p133
                  replace q133 := eq_true q133
                  have p134 : 0 ≤ (1 : Int) := (by omega)
                  have q134 : 1 < (t130.length : Int) := of_decide_eq_true (by first | (with_reducible assumption) | assumption)
                  obtain ⟨ad134, e134, hx134_0⟩ := Kd.at_int (Kd.R_reads' HO_4.out).2.2 1 p134 q134
                  obtain rfl : ad133 = ad134 := (by injection e134)
                  (try simp only [show (1 : Int).toNat = 1 from rfl, Nat.reduceMul, Nat.reduceEqDiff, Go.Addr.add, ↓reduceIte] at hx134_0)
                  have qi134 : (1 < t130.length) = True := eq_true (by omega)
                  (try rw [show ((1 : Int)).toNat = 1 from rfl] at hx134_0)
                  replace p134 := eq_true p134
                  replace q134 := eq_true q134
                  go_wp2_with (first | (go_at_call 21; (with_reducible refine (hangul_Together.calls kj4 (rd t130 0) (rd t130 1) t135 false _ A14.out).mono ?_); rintro e w' ⟨rfl, ⟨nd, rfl⟩⟩; (try first | exact ⟨rfl, _, World.drewN_drewN _ _ _⟩ | exact ⟨rfl, _, Eq.trans (World.drewN_drewN _ _ _) (congrArg (World.drewN _) (Nat.add_assoc _ _ _))⟩)))
                  repeat (go_quiet (first | (go_at_call 21; (with_reducible refine (hangul_Together.calls kj4 (rd t130 0) (rd t130 1) t135 false _ A14.out).mono ?_); rintro e w' ⟨rfl, ⟨nd, rfl⟩⟩; (try first | exact ⟨rfl, _, World.drewN_drewN _ _ _⟩ | exact ⟨rfl, _, Eq.trans (World.drewN_drewN _ _ _) (congrArg (World.drewN _) (Nat.add_assoc _ _ _))⟩))); try go_wp2_with (first | (go_at_call 21; (with_reducible refine (hangul_Together.calls kj4 (rd t130 0) (rd t130 1) t135 false _ A14.out).mono ?_); rintro e w' ⟨rfl, ⟨nd, rfl⟩⟩; (try first | exact ⟨rfl, _, World.drewN_drewN _ _ _⟩ | exact ⟨rfl, _, Eq.trans (World.drewN_drewN _ _ _) (congrArg (World.drewN _) (Nat.add_assoc _ _ _))⟩))))
                  go_ret
                  exact ⟨by first | rfl | (simp [errW_none, errW_some] <;> rfl) | (simp [*, errW_none, errW_some] <;> rfl), by repeat (first | (with_reducible first | exact HB.out | apply below_alloc | apply pw_below_drewN | apply below_drew1) | exact HB.out)⟩
              · rw [if_neg c15] at H
                have c15b0 : ((t130.length : Int) == 3) = false := beq_eq_false_iff_ne.mpr c15
                have c15b1 : ((t130.length : Int) != 3) = true := bne_iff_ne.mpr c15
                by_cases c23 : t136 = true
                · subst c23
                  have H1 : (some (t135 == (wrap64 (44032 + (Int.tmod (wrap64 (a0)) 11172))))) = some r := by rw [if_pos rfl] at H; exact H
                  clear H
                  have H := H1
                  clear H1
                  obtain rfl := Option.some.inj H
                  obtain ⟨Ao24, co24, eo24⟩ := Kd.R_slice HO_4.out
                  subst eo24
                  have p133 : 0 ≤ (0 : Int) := (by omega)
                  have q133 : 0 < (t130.length : Int) := of_decide_eq_true (by first | (with_reducible assumption) | assumption)
                  obtain ⟨ad133, e133, hx133_0⟩ := Kd.at_int (Kd.R_reads' HO_4.out).2.2 0 p133 q133
                  cases e133
                  have qi133 : (0 < t130.length) = True := eq_true (by omega)
                  (try rw [show ((0 : Int)).toNat = 0 from rfl] at hx133_0)
                  (try rw [Addr.add_zero'] at hx133_0)
                  replace p133 := eq_true p133
                  replace q133 := eq_true q133
                  have p134 : 0 ≤ (1 : Int) := (by omega)
                  have q134 : 1 < (t130.length : Int) := of_decide_eq_true (by first | (with_reducible assumption) | assumption)
                  obtain ⟨ad134, e134, hx134_0⟩ := Kd.at_int (Kd.R_reads' HO_4.out).2.2 1 p134 q134
                  obtain rfl : ad133 = ad134 := (by injection e134)
                  (try simp only [show (1 : Int).toNat = 1 from rfl, Nat.reduceMul, Nat.reduceEqDiff, Go.Addr.add, ↓reduceIte] at hx134_0)
                  have qi134 : (1 < t130.length) = True := eq_true (by omega)
                  (try rw [show ((1 : Int)).toNat = 1 from rfl] at hx134_0)
                  replace p134 := eq_true p134
                  replace q134 := eq_true q134
                  go_wp2_with (first | (go_at_call 21; (with_reducible refine (hangul_Together.calls kj4 (rd t130 0) (rd t130 1) t135 true _ A14.out).mono ?_); rintro e w' ⟨rfl, ⟨nd, rfl⟩⟩; (try first | exact ⟨rfl, _, World.drewN_drewN _ _ _⟩ | exact ⟨rfl, _, Eq.trans (World.drewN_drewN _ _ _) (congrArg (World.drewN _) (Nat.add_assoc _ _ _))⟩)))
                  repeat (go_quiet (first | (go_at_call 21; (with_reducible refine (hangul_Together.calls kj4 (rd t130 0) (rd t130 1) t135 true _ A14.out).mono ?_); rintro e w' ⟨rfl, ⟨nd, rfl⟩⟩; (try first | exact ⟨rfl, _, World.drewN_drewN _ _ _⟩ | exact ⟨rfl, _, Eq.trans (World.drewN_drewN _ _ _) (congrArg (World.drewN _) (Nat.add_assoc _ _ _))⟩))); try go_wp2_with (first | (go_at_call 21; (with_reducible refine (hangul_Together.calls kj4 (rd t130 0) (rd t130 1) t135 true _ A14.out).mono ?_); rintro e w' ⟨rfl, ⟨nd, rfl⟩⟩; (try first | exact ⟨rfl, _, World.drewN_drewN _ _ _⟩ | exact ⟨rfl, _, Eq.trans (World.drewN_drewN _ _ _) (congrArg (World.drewN _) (Nat.add_assoc _ _ _))⟩))))
                  go_ret
                  exact ⟨by first | rfl | (simp [errW_none, errW_some] <;> rfl) | (simp [*, errW_none, errW_some] <;> rfl), by repeat (first | (with_reducible first | exact HB.out | apply below_alloc | apply pw_below_drewN | apply below_drew1) | exact HB.out)⟩
                · replace c23 := Bool.eq_false_iff.mpr c23
                  subst c23
                  have H1 : (some false) = some r := by rw [if_neg (show ¬ (false = true) by decide)] at H; exact H
                  clear H
                  have H := H1
                  clear H1
                  obtain rfl := Option.some.inj H
                  obtain ⟨Ao25, co25, eo25⟩ := Kd.R_slice HO_4.out
                  subst eo25
                  have p133 : 0 ≤ (0 : Int) := (by omega)
                  have q133 : 0 < (t130.length : Int) := of_decide_eq_true (by first | (with_reducible assumption) | assumption)
                  obtain ⟨ad133, e133, hx133_0⟩ := Kd.at_int (Kd.R_reads' HO_4.out).2.2 0 p133 q133
                  cases e133
                  have qi133 : (0 < t130.length) = True := eq_true (by omega)
                  (try rw [show ((0 : Int)).toNat = 0 from rfl] at hx133_0)
                  (try rw [Addr.add_zero'] at hx133_0)
                  replace p133 := eq_true p133
                  replace q133 := eq_true q133
                  have p134 : 0 ≤ (1 : Int) := (by omega)
                  have q134 : 1 < (t130.length : Int) := of_decide_eq_true (by first | (with_reducible assumption) | assumption)
                  obtain ⟨ad134, e134, hx134_0⟩ := Kd.at_int (Kd.R_reads' HO_4.out).2.2 1 p134 q134
                  obtain rfl : ad133 = ad134 := (by injection e134)
                  (try simp only [show (1 : Int).toNat = 1 from rfl, Nat.reduceMul, Nat.reduceEqDiff, Go.Addr.add, ↓reduceIte] at hx134_0)
                  have qi134 : (1 < t130.length) = True := eq_true (by omega)
                  (try rw [show ((1 : Int)).toNat = 1 from rfl] at hx134_0)
                  replace p134 := eq_true p134
                  replace q134 := eq_true q134
                  go_wp2_with (first | (go_at_call 21; (with_reducible refine (hangul_Together.calls kj4 (rd t130 0) (rd t130 1) t135 false _ A14.out).mono ?_); rintro e w' ⟨rfl, ⟨nd, rfl⟩⟩; (try first | exact ⟨rfl, _, World.drewN_drewN _ _ _⟩ | exact ⟨rfl, _, Eq.trans (World.drewN_drewN _ _ _) (congrArg (World.drewN _) (Nat.add_assoc _ _ _))⟩)))
                  repeat (go_quiet (first | (go_at_call 21; (with_reducible refine (hangul_Together.calls kj4 (rd t130 0) (rd t130 1) t135 false _ A14.out).mono ?_); rintro e w' ⟨rfl, ⟨nd, rfl⟩⟩; (try first | exact ⟨rfl, _, World.drewN_drewN _ _ _⟩ | exact ⟨rfl, _, Eq.trans (World.drewN_drewN _ _ _) (congrArg (World.drewN _) (Nat.add_assoc _ _ _))⟩))); try go_wp2_with (first | (go_at_call 21; (with_reducible refine (hangul_Together.calls kj4 (rd t130 0) (rd t130 1) t135 false _ A14.out).mono ?_); rintro e w' ⟨rfl, ⟨nd, rfl⟩⟩; (try first | exact ⟨rfl, _, World.drewN_drewN _ _ _⟩ | exact ⟨rfl, _, Eq.trans (World.drewN_drewN _ _ _) (congrArg (World.drewN _) (Nat.add_assoc _ _ _))⟩))))
                  go_ret
                  exact ⟨by first | rfl | (simp [errW_none, errW_some] <;> rfl) | (simp [*, errW_none, errW_some] <;> rfl), by repeat (first | (with_reducible first | exact HB.out | apply below_alloc | apply pw_below_drewN | apply below_drew1) | exact HB.out)⟩
            · rw [if_neg c13] at H
              exact absurd H (by simp)
          · rw [if_neg c12] at H
            exact absurd H (by simp)
  · replace c3 := Bool.eq_false_iff.mpr c3
    subst c3
    have H1 : (some false) = some r := by rw [if_neg (show ¬ (false = true) by decide)] at H; exact H
    clear H
    have H := H1
    clear H1
    obtain rfl := Option.some.inj H
    go_enter Try.func5, Try.ntmps5
    go_wp2_with (first | (go_at_call 16; (with_reducible refine (paronymlaw08_awake.calls k  false _ A2.out).mono ?_); rintro e w26 ⟨rfl, hb⟩; have n0_ := Aside0.mk (below_step (by repeat (first | (with_reducible first | exact HB.out | apply below_alloc | apply pw_below_drewN | apply below_drew1) | exact HB.out)) hb); clear HB; have HB := n0_; clear n0_; (try clear hb); (try clear hb2); (try clear hk); (try clear hi)))
    repeat (go_quiet (first | (go_at_call 16; (with_reducible refine (paronymlaw08_awake.calls k  false _ A2.out).mono ?_); rintro e w26 ⟨rfl, hb⟩; have n0_ := Aside0.mk (below_step (by repeat (first | (with_reducible first | exact HB.out | apply below_alloc | apply pw_below_drewN | apply below_drew1) | exact HB.out)) hb); clear HB; have HB := n0_; clear n0_; (try clear hb); (try clear hb2); (try clear hk); (try clear hi))); try go_wp2_with (first | (go_at_call 16; (with_reducible refine (paronymlaw08_awake.calls k  false _ A2.out).mono ?_); rintro e w26 ⟨rfl, hb⟩; have n0_ := Aside0.mk (below_step (by repeat (first | (with_reducible first | exact HB.out | apply below_alloc | apply pw_below_drewN | apply below_drew1) | exact HB.out)) hb); clear HB; have HB := n0_; clear n0_; (try clear hb); (try clear hb2); (try clear hk); (try clear hi))))
    go_ret
    exact ⟨by first | rfl | (simp [errW_none, errW_some] <;> rfl) | (simp [*, errW_none, errW_some] <;> rfl), by repeat (first | (with_reducible first | exact HB.out | apply below_alloc | apply pw_below_drewN | apply below_drew1) | exact HB.out)⟩

/-- THE ONE PURE STATEMENT of paronymlaw08_HangulBack: yours. -/
def paronymlaw08_HangulBack.Pure : Prop := ∀ (a0 : Int), (Lit.int .u16 a0).wf = true → ∃ k, paronymlaw08_HangulBack.f k a0 = some true
theorem paronymlaw08_HangulBack.walk (P : paronymlaw08_HangulBack.Pure) (a0 : Int) (w : World) (w0 : (Lit.int .u16 a0).wf = true) :
    Calls Try.prog 5 #[.int .u16 a0] w fun e w' => e = .returned (.bool true) ∧ Below w.heap.size w w' := by
  obtain ⟨k, h⟩ := P a0 w0
  refine (paronymlaw08_HangulBack.calls k a0 true w h).mono ?_
  rintro e w' ⟨rfl, hd⟩
  exact ⟨rfl, hd⟩

end Go.Proofs.Ytgfmplhpoblleaa.PHangulBack
