/- The statement MatchFeeds, walked. -/
import Derived.Test.YtgfmplhpoblleaaMB13
namespace Go.Proofs.Ytgfmplhpoblleaa.FailW
open Go.RowKit Go.Shelf Go.Lib Go.Proofs Go.Proofs.YtgfmplhpoblleaaW.PrintWords Go.Proofs.YtgfmplhpoblleaaW.PrintLast Go.Proofs.YtgfmplhpoblleaaW.PrintMore Go.Proofs.Ytgfmplhpoblleaa.PRank Go.Proofs.Ytgfmplhpoblleaa.PFB Go.Proofs.Ytgfmplhpoblleaa.RankW Go.Proofs.Ytgfmplhpoblleaa.SortOwn Go.Proofs.Ytgfmplhpoblleaa
open Go.Proofs.Ytgfmplhpoblleaa.Cmps hiding dedup
set_option linter.unusedVariables false
set_option linter.unusedSimpArgs false

theorem all_same (A0 : Option Addr) (c0 : Nat) (A1 : Option Addr) (c1 : Nat) (x : List S71) (w : World) {base : Nat} (hR : Kd.R k71 71 w base (fun _ => True) (.slice A0 x.length c0) x) (hr1 : Kd.C k71 w A1 x.length x) (hc1 : x.length ≤ c1) (hx : x.length ≤ 1000000) :
    Calls Try.prog 57 #[.slice A0 x.length c0, .slice A1 x.length c1] w fun e w' => e = .returned (.bool true) ∧ Drawn0 w w' := by
  obtain ⟨A2, c2, e, h1, h2⟩ := Kd.R_reads hR
  injection e with q1 q2 q3
  subst q1 q3
  exact same_self A0 x.length c0 A1 x.length c1 x w rfl rfl h2 h1 hr1 hc1 hx
theorem MtT_mk {w0 w : World} {g : Nat} {p t : Addr} {l : List (List Int)} {s : St} {vl : Value} {tx : List Int} {k q T : Nat} (h : Mt w0 w g p t l s vl (lens l) (q : Nat) ((k : Nat) : Int) ((T : Nat) : Int)) (hq : q = (textsOf l).idxOf (lngT (textsOf l) (tx.take k))) (hT : T = tkT l [] (tx.take k)) : MtT w0 w g p t l s vl tx k := by
  unfold MtT
  rw [← hq, ← hT]
  exact h
theorem findD_len (l : List (List Int)) (t : List Int) : ∀ (d a : Nat), (findD l t a d).length ≤ l.length * d
  | 0, a => by simp [findD]
  | d + 1, a => by
    have h1 := findD_len l t d (a + 1)
    have h2 := plcT_len t a l 0
    rw [findD, List.length_append, Nat.mul_succ]
    omega
set_option maxHeartbeats 8000000 in
set_option maxRecDepth 100000 in
theorem feeds24_calls (A : Option Addr) (c : Nat) (l : List (List Int)) (A1 : Option Addr) (c1 : Nat) (ts : List (List Int)) (w : World) (hV : Kd.V (Kd.slice 3 (Kd.int .i64)) 23 w w.heap.size (fun _ => True) (.slice A l.length c) l) (hW : Kd.V (Kd.slice 3 (Kd.int .i64)) 23 w w.heap.size (fun _ => True) (.slice A1 ts.length c1) ts) :
    Calls Try.prog 14 #[.slice A l.length c, .slice A1 ts.length c1] w fun e w' => e = .returned (.bool true) ∧ Go.RowKit.Below w.heap.size w w' := by
  have HV := Aside0.mk hV
  have HW := Aside0.mk hW
  have HB := Aside0.mk (Go.RowKit.Below.refl w.heap.size w)
  clear hV hW
  obtain ⟨b, hb, hbx⟩ := small_f l 12 (by omega) 6000000 (by omega)
  have HS := Aside0.mk hb
  clear hb
  cases b with
  | false =>
    clear hbx
    go_enter Try.func14, Try.ntmps14
    go_wp2_with (first | (go_at_call 49; refine (awake24_calls _).mono ?_; rintro e w2 ⟨rfl, hb2⟩; have n_ := Aside0.mk (below_step (by repeat (first | (with_reducible first | exact HB.out | apply below_alloc | apply pw_below_drewN | apply below_drew1) | exact HB.out)) hb2); clear HB; have HB := n_; clear n_; clear hb2) | (go_at_call 34; refine (paronymref22_Small.calls 6000000 A c l 12 false _ (Kd.V_reads' (Kd.V_below HV.out (by repeat (first | (with_reducible first | exact HB.out | apply below_alloc | apply pw_below_drewN | apply below_drew1) | exact HB.out)))).2.2 (Kd.V_reads' HV.out).2.1 HS.out).mono ?_; rintro e w3 ⟨rfl, ⟨nd, rfl⟩⟩))
    go_ret
    exact ⟨rfl, (by repeat (first | (with_reducible first | exact HB.out | apply below_alloc | apply pw_below_drewN | apply below_drew1) | exact HB.out))⟩
  | true =>
    have hIn : In 20 l := In.mono ⟨(hbx rfl).1, (hbx rfl).2⟩ (by omega)
    have HIn := Aside0.mk hIn
    have he := empty_f l (by have := hIn.len; omega) 6000000 (by omega)
    clear hbx hIn
    obtain ⟨b, hb⟩ : ∃ b, l.any (·.isEmpty) = b := ⟨_, rfl⟩
    rw [hb] at he
    have HE := Aside0.mk he
    have HEm := Aside0.mk hb
    clear he hb
    cases b with
    | true =>
      go_enter Try.func14, Try.ntmps14
      go_wp2_with (first | (go_at_call 49; refine (awake24_calls _).mono ?_; rintro e w2 ⟨rfl, hb2⟩; have n_ := Aside0.mk (below_step (by repeat (first | (with_reducible first | exact HB.out | apply below_alloc | apply pw_below_drewN | apply below_drew1) | exact HB.out)) hb2); clear HB; have HB := n_; clear n_; clear hb2) | (go_at_call 34; refine (paronymref22_Small.calls 6000000 A c l 12 true _ (Kd.V_reads' (Kd.V_below HV.out (by repeat (first | (with_reducible first | exact HB.out | apply below_alloc | apply pw_below_drewN | apply below_drew1) | exact HB.out)))).2.2 (Kd.V_reads' HV.out).2.1 HS.out).mono ?_; rintro e w3 ⟨rfl, ⟨nd, rfl⟩⟩) | (go_at_call 35; refine (paronymref22_Empty.calls 6000000 A c l true _ (Kd.V_reads' (Kd.V_below HV.out (by repeat (first | (with_reducible first | exact HB.out | apply below_alloc | apply pw_below_drewN | apply below_drew1) | exact HB.out)))).2.2 (Kd.V_reads' HV.out).2.1 HE.out).mono ?_; rintro e w3 ⟨rfl, ⟨nd, rfl⟩⟩))
      go_ret
      exact ⟨rfl, (by repeat (first | (with_reducible first | exact HB.out | apply below_alloc | apply pw_below_drewN | apply below_drew1) | exact HB.out))⟩
    | false =>
      by_cases hx : ts.length > 6
      · have hx1 : decide (6 < (ts.length : Int)) = true := decide_eq_true (by omega)
        go_enter Try.func14, Try.ntmps14
        go_wp2_with (first | (go_at_call 49; refine (awake24_calls _).mono ?_; rintro e w2 ⟨rfl, hb2⟩; have n_ := Aside0.mk (below_step (by repeat (first | (with_reducible first | exact HB.out | apply below_alloc | apply pw_below_drewN | apply below_drew1) | exact HB.out)) hb2); clear HB; have HB := n_; clear n_; clear hb2) | (go_at_call 34; refine (paronymref22_Small.calls 6000000 A c l 12 true _ (Kd.V_reads' (Kd.V_below HV.out (by repeat (first | (with_reducible first | exact HB.out | apply below_alloc | apply pw_below_drewN | apply below_drew1) | exact HB.out)))).2.2 (Kd.V_reads' HV.out).2.1 HS.out).mono ?_; rintro e w3 ⟨rfl, ⟨nd, rfl⟩⟩) | (go_at_call 35; refine (paronymref22_Empty.calls 6000000 A c l false _ (Kd.V_reads' (Kd.V_below HV.out (by repeat (first | (with_reducible first | exact HB.out | apply below_alloc | apply pw_below_drewN | apply below_drew1) | exact HB.out)))).2.2 (Kd.V_reads' HV.out).2.1 HE.out).mono ?_; rintro e w3 ⟨rfl, ⟨nd, rfl⟩⟩))
        go_ret
        exact ⟨rfl, (by repeat (first | (with_reducible first | exact HB.out | apply below_alloc | apply pw_below_drewN | apply below_drew1) | exact HB.out))⟩
      have hx1 : decide (6 < (ts.length : Int)) = false := decide_eq_false (by omega)
      go_enter Try.func14, Try.ntmps14
      go_wp2_with (first | (go_at_call 49; refine (awake24_calls _).mono ?_; rintro e w2 ⟨rfl, hb2⟩; have n_ := Aside0.mk (below_step (by repeat (first | (with_reducible first | exact HB.out | apply below_alloc | apply pw_below_drewN | apply below_drew1) | exact HB.out)) hb2); clear HB; have HB := n_; clear n_; clear hb2) | (go_at_call 34; refine (paronymref22_Small.calls 6000000 A c l 12 true _ (Kd.V_reads' (Kd.V_below HV.out (by repeat (first | (with_reducible first | exact HB.out | apply below_alloc | apply pw_below_drewN | apply below_drew1) | exact HB.out)))).2.2 (Kd.V_reads' HV.out).2.1 HS.out).mono ?_; rintro e w3 ⟨rfl, ⟨nd, rfl⟩⟩) | (go_at_call 35; refine (paronymref22_Empty.calls 6000000 A c l false _ (Kd.V_reads' (Kd.V_below HV.out (by repeat (first | (with_reducible first | exact HB.out | apply below_alloc | apply pw_below_drewN | apply below_drew1) | exact HB.out)))).2.2 (Kd.V_reads' HV.out).2.1 HE.out).mono ?_; rintro e w3 ⟨rfl, ⟨nd, rfl⟩⟩) | (go_at_call 50; go_loud (refine (mnew_n A l.length c l _ rfl (Kd.V_reads' (Kd.V_below HV.out (by repeat (first | (with_reducible first | exact HB.out | apply below_alloc | apply pw_below_drewN | apply below_drew1) | exact HB.out)))).2.2 HIn.out HEm.out).mono ?_); rintro e w4 ⟨w0, g, rfl, ⟨s, pp, t, vl, hM⟩, hb, hz⟩; have HZ0 := Aside0.mk (show w.heap.size ≤ w0.heap.size from Nat.le_trans (below_size (by repeat (first | (with_reducible first | exact HB.out | apply below_alloc | apply pw_below_drewN | apply below_drew1) | exact HB.out))) hz); have HM := Aside0.mk hM; have HB2 := Aside0.mk (Go.RowKit.Below.refl w4.heap.size w4); have n_ := Aside0.mk (below_step (by repeat (first | (with_reducible first | exact HB.out | apply below_alloc | apply pw_below_drewN | apply below_drew1) | exact HB.out)) hb); clear HB; have HB := n_; clear n_; clear hM hb hz))
      go_loopw [7] (fun iv wr => ∃ i : Nat, iv = .int .i64 i ∧ i ≤ ts.length ∧ Go.RowKit.Below w.heap.size w wr ∧ Mt w0 wr g pp t l s vl (lens l) 0 0 0 ∧ (∀ j (h : j < ts.length), j < i → ts[j].length ≤ 60)) (fun iv wr => ts.length - (intOf iv).toNat)
      case atStart => exact ⟨0, rfl, Nat.zero_le _, (by repeat (first | (with_reducible first | exact HB.out | apply below_alloc | apply pw_below_drewN | apply below_drew1) | exact HB.out)), HM.out.below (by repeat (first | (with_reducible first | exact HB2.out | apply below_alloc | apply pw_below_drewN | apply below_drew1) | exact HB2.out)), fun _ _ h => absurd h (Nat.not_lt_zero _)⟩
      case round =>
        obtain ⟨i, rfl, hi, hbr, hM0, h60⟩ := hrel
        clear HB HB2
        have HB := Aside0.mk hbr
        clear HM
        have HM := Aside0.mk (And.intro hM0 h60)
        clear hM0 h60 hbr
        by_cases hlt : i < ts.length
        · obtain ⟨ad, A3, c3, rfl, hxc, hl1, hi1⟩ := kRows_at (Kd.V_reads' HW.out).2.2 i hlt
          have hxr := cell_below HB.out hxc
          have HXC := Aside0.mk hxc
          obtain ⟨tx, htx⟩ : ∃ tx, tx = ts[i] := ⟨_, rfl⟩
          rw [← htx] at hxr hl1 hi1
          have HX := Aside0.mk (And.intro hl1 hi1)
          have HTX := Aside0.mk htx
          clear hl1 hi1 hxc htx
          have il : (i : Int) < (ts.length : Int) := by omega
          have hll : ts.length ≤ 6 := by omega
          by_cases hx60 : tx.length > 60
          · have hx2 : decide (60 < (tx.length : Int)) = true := decide_eq_true (by omega)
            go_wp2
            go_ret
            exact ⟨rfl, (by repeat (first | (with_reducible first | exact HB.out | apply below_alloc | apply pw_below_drewN | apply below_drew1) | exact HB.out))⟩
          have hx2 : decide (60 < (tx.length : Int)) = false := decide_eq_false (by omega)
          have HX60 := Aside0.mk (show tx.length ≤ 300 by omega)
          go_wp2
          go_loopw [8, 9] (fun ov kv wr => ∃ k : Nat, kv = .int .i64 k ∧ k ≤ tx.length ∧ Kd.R k71 71 wr w0.heap.size (fun _ => True) ov (hitsAll l [] (tx.take k)) ∧ MtT w0 wr g pp t l s vl tx k ∧ Go.RowKit.Below w.heap.size w wr) (fun ov kv wr => tx.length - (intOf kv).toNat)
          case atStart => exact ⟨0, rfl, Nat.zero_le _, by rw [List.take_zero]; exact Kd.R_nil _ _ _ _ _, MtT.zero HM.out.1 HIn.out, (by repeat (first | (with_reducible first | exact HB.out | apply below_alloc | apply pw_below_drewN | apply below_drew1) | exact HB.out))⟩
          case round =>
            obtain ⟨k, rfl, hk, hRk, hMk, hbk⟩ := hrel
            clear HB
            have HB := Aside0.mk hbk
            have h600 := HM.out.2
            clear HM hxr
            have H60 := Aside0.mk h600
            have hxr := cell_below HB.out HXC.out
            rw [← HTX.out] at hxr
            clear hbk h600
            obtain ⟨acc, hacc⟩ : ∃ acc, acc = hitsAll l [] (tx.take k) := ⟨_, rfl⟩
            rw [← hacc] at hRk
            obtain ⟨A7, c7, rfl⟩ := Kd.R_slice hRk
            have hal : acc.length ≤ 20 * 60 := by
              have h1 := hitsAll_len l (tx.take k) []
              have h2 : l.length * (tx.take k).length ≤ 20 * 60 := Nat.mul_le_mul HIn.out.len (by rw [List.length_take]; omega)
              rw [hacc]; omega
            have HM := Aside0.mk (And.intro hMk hRk)
            have HACC := Aside0.mk (And.intro hal hacc)
            clear hMk hRk hal hacc
            by_cases hlk : k < tx.length
            · obtain ⟨ad3, rfl, hcell⟩ := int_at HX.out.2 k hlk
              replace hcell := cell_below HB.out hcell
              obtain ⟨ch, hch⟩ : ∃ ch, ch = tx[k] := ⟨_, rfl⟩
              rw [← hch] at hcell
              have HCH := Aside0.mk hch
              clear hch
              have hkl : (k : Int) < (tx.length : Int) := by omega
              obtain ⟨T, hT⟩ : ∃ T, T = tkT l [] (tx.take (k + 1)) := ⟨_, rfl⟩
              have hT1 : k + 1 ≤ T := by have := tkT_more l (tx.take (k + 1)) []; rw [List.length_take] at this; omega
              have hT2 : T ≤ 2 * (k + 1) := by have := tkT_2 HIn.out (tx.take (k + 1)); rw [List.length_take] at this; omega
              have d1 : decide (2 * ((k : Int) + 1) < (T : Int)) = false := decide_eq_false (by omega)
              have d2 : decide ((T : Int) < (k : Int) + 1) = false := decide_eq_false (by omega)
              have HT := Aside0.mk hT
              clear hT
              obtain ⟨qn, hqn⟩ : ∃ q, q = (textsOf l).idxOf (lngT (textsOf l) (tx.take (k + 1))) := ⟨_, rfl⟩
              have HQN := Aside0.mk hqn
              clear hqn
              go_wp2_with (first | (go_at_call 55; go_loud (refine (feedT hlk HM.out.1 HIn.out HEm.out HX60.out (ch := ch) HCH.out).mono ?_); rintro e w5 ⟨hs, A5, c5, rfl, hE, hL, hR, hM, hg⟩; have HF := Aside0.mk (And.intro hE (And.intro hL (And.intro hR (And.intro hM hg)))); clear hE hL hR hM hg) | (at_builtin; refine Aside0.out ?_))
              refine Aside0.mk ?_
              have R5 : Kd.R k71 71 w5 w0.heap.size (fun _ => True) (.slice A7 acc.length c7) acc := R_turn HM.out.2 (fun b hb => HF.out.2.2.2.2.block b (R_own_lt HM.out.2 b hb).1 (fun e => (Mt.apart HM.out.1 HM.out.2 (Nat.le_refl _) b hb).2.1 (by injection e)))
              have HR5 := Aside0.mk R5
              clear R5
              refine append_hits rfl (.tmp 55) (.tmp 64) rfl w0.heap.size wr.heap.size (.slice A7 acc.length c7) acc A5 hs.length c5 hs rfl rfl HR5.out HF.out.2.2.1 (Nat.le_trans HM.out.1.bw.size HF.out.2.2.2.2.size) (by have := HF.out.2.1; have := HACC.out.1; omega) ?_
              intro v1 w6 hR6 hg6
              obtain ⟨A8, c8, e8⟩ := Kd.R_slice hR6
              subst e8
              have h7_ : Mt w0 w6 g pp t l s vl (lens l) (qn : Nat) ((k + 1 : Nat) : Int) ((T : Nat) : Int) := by
                rw [HQN.out, HT.out]
                exact MtT.other HF.out.2.2.2.1 hg6 (Mt.apart HF.out.2.2.2.1 HR5.out (Nat.le_refl _))
              have H7 := Aside0.mk h7_
              have H6 := Aside0.mk hR6
              have hz_ : w.heap.size ≤ g := Nat.le_trans HZ0.out HM.out.1.hg
              have n_ := Aside0.mk (Go.RowKit.Below.grown (Go.RowKit.Below.grown HB.out HF.out.2.2.2.2 HB.out.size (fun k hk => by injection hk with hk; subst hk; exact hz_)) hg6 (Nat.le_trans HB.out.size HF.out.2.2.2.2.size) (fun k hk => Nat.le_trans HZ0.out (R_own_lt HM.out.2 k hk).2))
              clear HB
              have HB := n_
              clear n_ hz_ h7_ hR6
              have HB7 := Aside0.mk (Go.RowKit.Below.refl w6.heap.size w6)
              clear hg6
              have ek : ((k + 1 : Nat) : Int) = (k : Int) + 1 := by omega
              go_wp2_with (first | (go_at_call 54; go_loud (refine (read_calls H7.out).mono ?_); rintro e w8 ⟨rfl, rfl⟩) | (go_at_call 56; go_loud (refine (taken_calls H7.out).mono ?_); rintro e w8 ⟨rfl, rfl⟩))
              have eA : hitsAll l [] (tx.take (k + 1)) = acc ++ hs := by rw [HF.out.1, ← HACC.out.2]
              have HEA := Aside0.mk eA
              clear eA ek
              by_cases hk2 : k = 2
              · have d4 : ((k : Int) == 2) = true := by simp; omega
                obtain ⟨ad', A9, c9, ead, hx9, hl9, hi9⟩ := kRows_at (Kd.V_reads' HW.out).2.2 0 (by omega)
                obtain rfl : ad = ad' := Option.some.inj ead
                obtain ⟨t0, ht0⟩ : ∃ t0, t0 = ts[0]'(by omega) := ⟨_, rfl⟩
                have ht60 : t0.length ≤ 60 := by
                  rcases Nat.eq_zero_or_pos i with e0 | e0
                  · subst e0; rw [ht0, ← HTX.out]; omega
                  · rw [ht0]; exact H60.out 0 (by omega) e0
                rw [← ht0] at hx9 hl9 hi9
                obtain ⟨F, hF⟩ : ∃ F, findD l t0 0 t0.length = F := ⟨_, rfl⟩
                have hFl : F.length ≤ 1000000 := by
                  have h1 := findD_len l t0 t0.length 0
                  have h2 : l.length * t0.length ≤ 20 * 60 := Nat.mul_le_mul HIn.out.len ht60
                  rw [← hF]; omega
                have ez : ad.add 0 = ad := by unfold Addr.add; simp
                rw [ez] at hx9
                have H9 := Aside0.mk (And.intro hl9 (And.intro hi9 (And.intro ht60 (And.intro hF (And.intro hFl hx9)))))
                have hts0 : (0 : Int) < (ts.length : Int) := by omega
                have hts1 : 0 < ts.length := by omega
                have hx9n := cell_below HB.out hx9
                have HD3 := Aside0.mk hk2
                clear hl9 hi9 ht0 hF hFl hx9 ead ez ht60 hk2
                refine wp_region_held_drew (S := (fun w' => w'.cell? ad = some (.slice A9 t0.length c9))) (by kernel_rfl) ?s0p (fun hHeld => ?b0p)
                case s0p => (first | exact hx9n | exact cell_below (by repeat (first | (with_reducible first | exact HB.out | apply below_alloc | apply pw_below_drewN | apply below_drew1) | exact HB.out)) H9.out.2.2.2.2.2 | go_keep)
                refine wpAnyH_take (i := 0) (oi := { dst := some 86, op := Go.Op.move (Go.Operand.tmp 9), type := 3, pos := "law.go:56", after := #[], guard := none }) (v := ?vp_1) rfl (by kernel_rfl) (by kernel_rfl) (by kernel_rfl) (fun _ _ _ h => h) (Or.inl ⟨by rfl, ?hyp_1⟩) (by assumption) ?rep_1
                case hyp_1 => (intro w hSw; (try dsimp only at hSw); go_simp; try with_reducible rfl)
                try simp only [Act.put, List.setIfInBounds_toArray, List.set_cons_zero, List.set_cons_succ]
                refine wpAnyH_take (i := 1) (oi := { dst := some 87, op := Go.Op.binOp Go.BinOp.eql 3 (Go.Operand.tmp 86) (Go.Operand.const (Go.Value.int Go.IntKind.i64 2)) 3, type := 4, pos := "law.go:56", after := #[{ on := 0, ground := Go.Ground.data }], guard := none }) (v := ?vp_2) rfl (by kernel_rfl) (by kernel_rfl) (by kernel_rfl) (fun _ _ _ h => h) (Or.inl ⟨by rfl, ?hyp_2⟩) (by assumption) ?rep_2
                case hyp_2 => (intro w hSw; (try dsimp only at hSw); go_simp; try with_reducible rfl)
                try simp only [Act.put, List.setIfInBounds_toArray, List.set_cons_zero, List.set_cons_succ]
                refine wpAnyH_take (i := 2) (oi := { dst := some 88, op := Go.Op.move (Go.Operand.tmp 87), type := 4, pos := "law.go:56", after := #[{ on := 1, ground := Go.Ground.data }], guard := none }) (v := ?vp_3) rfl (by kernel_rfl) (by kernel_rfl) (by kernel_rfl) (fun _ _ _ h => h) (Or.inl ⟨by rfl, ?hyp_3⟩) (by assumption) ?rep_3
                case hyp_3 => (intro w hSw; (try dsimp only at hSw); go_simp; try with_reducible rfl)
                try simp only [Act.put, List.setIfInBounds_toArray, List.set_cons_zero, List.set_cons_succ]
                refine wpAnyH_take (i := 3) (oi := { dst := some 89, op := Go.Op.move (Go.Operand.tmp 5), type := 65, pos := "law.go:56", after := #[{ on := 2, ground := Go.Ground.guard }], guard := some (2, true) }) (v := ?vp_4) rfl (by kernel_rfl) (by kernel_rfl) (by kernel_rfl) (fun _ _ _ h => h) (Or.inl ⟨by rfl, ?hyp_4⟩) (by assumption) ?rep_4
                case hyp_4 => (intro w hSw; (try dsimp only at hSw); go_simp; try with_reducible rfl)
                try simp only [Act.put, List.setIfInBounds_toArray, List.set_cons_zero, List.set_cons_succ]
                refine wpAnyH_take (i := 4) (oi := { dst := some 90, op := Go.Op.move (Go.Operand.tmp 1), type := 45, pos := "law.go:56", after := #[{ on := 2, ground := Go.Ground.guard }], guard := some (2, true) }) (v := ?vp_5) rfl (by kernel_rfl) (by kernel_rfl) (by kernel_rfl) (fun _ _ _ h => h) (Or.inl ⟨by rfl, ?hyp_5⟩) (by assumption) ?rep_5
                case hyp_5 => (intro w hSw; (try dsimp only at hSw); go_simp; try with_reducible rfl)
                try simp only [Act.put, List.setIfInBounds_toArray, List.set_cons_zero, List.set_cons_succ]
                refine wpAnyH_take (i := 5) (oi := { dst := some 91, op := Go.Op.indexAddr 45 (Go.Operand.tmp 90) (Go.Operand.const (Go.Value.int Go.IntKind.i64 0)), type := 0, pos := "law.go:56", after := #[{ on := 4, ground := Go.Ground.data }, { on := 2, ground := Go.Ground.guard }], guard := some (2, true) }) (v := ?vp_6) rfl (by kernel_rfl) (by kernel_rfl) (by kernel_rfl) (fun _ _ _ h => h) (Or.inl ⟨by rfl, ?hyp_6⟩) (by assumption) ?rep_6
                case hyp_6 => (intro w hSw; (try dsimp only at hSw); go_simp; try with_reducible rfl)
                try simp only [Act.put, List.setIfInBounds_toArray, List.set_cons_zero, List.set_cons_succ]
                refine wpAnyH_take (i := 6) (oi := { dst := some 92, op := Go.Op.load 23 (Go.Operand.tmp 91), type := 23, pos := "law.go:56", after := #[{ on := 5, ground := Go.Ground.data }, { on := 2, ground := Go.Ground.guard }], guard := some (2, true) }) (v := ?vp_7) rfl (by kernel_rfl) (by kernel_rfl) (by kernel_rfl) (fun _ _ _ h => h) (Or.inl ⟨by rfl, ?hyp_7⟩) (by assumption) ?rep_7
                case hyp_7 => (intro w hSw; (try dsimp only at hSw); go_simp; try with_reducible rfl)
                try simp only [Act.put, List.setIfInBounds_toArray, List.set_cons_zero, List.set_cons_succ]
                refine wpAnyH_take (i := 8) (oi := { dst := some 94, op := Go.Op.move (Go.Operand.tmp 0), type := 45, pos := "law.go:56", after := #[{ on := 2, ground := Go.Ground.guard }], guard := some (2, true) }) (v := ?vp_8) rfl (by kernel_rfl) (by kernel_rfl) (by kernel_rfl) (fun _ _ _ h => h) (Or.inl ⟨by rfl, ?hyp_8⟩) (by assumption) ?rep_8
                case hyp_8 => (intro w hSw; (try dsimp only at hSw); go_simp; try with_reducible rfl)
                try simp only [Act.put, List.setIfInBounds_toArray, List.set_cons_zero, List.set_cons_succ]
                refine wpAnyH_take (i := 9) (oi := { dst := some 95, op := Go.Op.move (Go.Operand.tmp 1), type := 45, pos := "law.go:56", after := #[{ on := 2, ground := Go.Ground.guard }], guard := some (2, true) }) (v := ?vp_9) rfl (by kernel_rfl) (by kernel_rfl) (by kernel_rfl) (fun _ _ _ h => h) (Or.inl ⟨by rfl, ?hyp_9⟩) (by assumption) ?rep_9
                case hyp_9 => (intro w hSw; (try dsimp only at hSw); go_simp; try with_reducible rfl)
                try simp only [Act.put, List.setIfInBounds_toArray, List.set_cons_zero, List.set_cons_succ]
                refine wpAnyH_take (i := 10) (oi := { dst := some 96, op := Go.Op.indexAddr 45 (Go.Operand.tmp 95) (Go.Operand.const (Go.Value.int Go.IntKind.i64 0)), type := 0, pos := "law.go:56", after := #[{ on := 9, ground := Go.Ground.data }, { on := 2, ground := Go.Ground.guard }], guard := some (2, true) }) (v := ?vp_10) rfl (by kernel_rfl) (by kernel_rfl) (by kernel_rfl) (fun _ _ _ h => h) (Or.inl ⟨by rfl, ?hyp_10⟩) (by assumption) ?rep_10
                case hyp_10 => (intro w hSw; (try dsimp only at hSw); go_simp; try with_reducible rfl)
                try simp only [Act.put, List.setIfInBounds_toArray, List.set_cons_zero, List.set_cons_succ]
                refine wpAnyH_take (i := 11) (oi := { dst := some 97, op := Go.Op.load 23 (Go.Operand.tmp 96), type := 23, pos := "law.go:56", after := #[{ on := 10, ground := Go.Ground.data }, { on := 2, ground := Go.Ground.guard }], guard := some (2, true) }) (v := ?vp_11) rfl (by kernel_rfl) (by kernel_rfl) (by kernel_rfl) (fun _ _ _ h => h) (Or.inl ⟨by rfl, ?hyp_11⟩) (by assumption) ?rep_11
                case hyp_11 => (intro w hSw; (try dsimp only at hSw); go_simp; try with_reducible rfl)
                try simp only [Act.put, List.setIfInBounds_toArray, List.set_cons_zero, List.set_cons_succ]
                refine wpAnyH_ready (rs := [7]) (by kernel_rfl) (by simp) ?rdp_12
                refine (AllReadyH.cons (o := { dst := some 93, op := Go.Op.call { callee := Go.Callee.value (Go.Operand.func 51), args := #[Go.Operand.tmp 89, Go.Operand.tmp 92], argTypes := #[65, 23] }, type := 68, pos := "law.go:56", after := #[{ on := 3, ground := Go.Ground.data }, { on := 6, ground := Go.Ground.data }, { on := 2, ground := Go.Ground.chain }, { on := 2, ground := Go.Ground.guard }], guard := some (2, true) }) rfl (fun K hK => ?stp_12_0) AllReadyH.nil)
                case stp_12_0 =>
                  (go_simp; go_at_call 51; go_loud (refine (mfind_n (Mt.below H7.out (by repeat (first | (with_reducible first | exact HB7.out | apply below_alloc | apply pw_below_drewN | apply below_drew1) | exact HB7.out))) HIn.out HEm.out A9 t0.length c9 t0 F rfl H9.out.2.2.2.1 (Kd.C_below H9.out.2.1 (by repeat (first | (with_reducible first | exact HB.out | apply below_alloc | apply pw_below_drewN | apply below_drew1) | exact HB.out))) (by have := H9.out.2.2.1; omega)).mono ?_); rintro e w8 ⟨A10, c10, rfl, hc10, hC10, hb⟩; have HQ := Aside0.mk (And.intro hc10 hC10); have HBQ := Aside0.mk (Go.RowKit.Below.refl w8.heap.size w8); have n_ := Aside0.mk (below_step (by repeat (first | (with_reducible first | exact HB.out | apply below_alloc | apply pw_below_drewN | apply below_drew1) | exact HB.out)) hb); clear HB; have HB := n_; clear n_; have n_ := Aside0.mk (below_step (by repeat (first | (with_reducible first | exact HB7.out | apply below_alloc | apply pw_below_drewN | apply below_drew1) | exact HB7.out)) hb); clear HB7; have HB7 := n_; clear n_; (try (have n_ := Aside0.mk (below_step (by repeat (first | (with_reducible first | exact HBR.out | apply below_alloc | apply pw_below_drewN | apply below_drew1) | exact HBR.out)) hb); clear HBR; have HBR := n_; clear n_)); clear hb hc10 hC10)
                  refine hK.out _ _ ?hsp_12_0 (fun hHeld => ?rep_12_0)
                  case hsp_12_0 => (first | exact hx9n | exact cell_below (by repeat (first | (with_reducible first | exact HB.out | apply below_alloc | apply pw_below_drewN | apply below_drew1) | exact HB.out)) H9.out.2.2.2.2.2 | go_keep)
                  clear hK K
                  try simp only [Act.put, List.setIfInBounds_toArray, List.set_cons_zero, List.set_cons_succ]
                  refine wpAnyH_ready (rs := [12]) (by kernel_rfl) (by simp) ?rdp_13
                  refine (AllReadyH.cons (o := { dst := some 98, op := Go.Op.call { callee := Go.Callee.value (Go.Operand.func 58), args := #[Go.Operand.tmp 94, Go.Operand.tmp 97], argTypes := #[45, 23] }, type := 68, pos := "law.go:56", after := #[{ on := 8, ground := Go.Ground.data }, { on := 11, ground := Go.Ground.data }, { on := 7, ground := Go.Ground.chain }, { on := 2, ground := Go.Ground.guard }], guard := some (2, true) }) rfl (fun K hK => ?stp_13_0) AllReadyH.nil)
                  case stp_13_0 =>
                    (go_simp; go_at_call 58; go_loud (refine (paronymref24_Find.calls 6000000 A c l A9 c9 t0 F _ (Kd.V_reads' (Kd.V_below HV.out (by repeat (first | (with_reducible first | exact HB.out | apply below_alloc | apply pw_below_drewN | apply below_drew1) | exact HB.out)))).2.2 (Kd.V_reads' HV.out).2.1 (Kd.C_below H9.out.2.1 (by repeat (first | (with_reducible first | exact HB.out | apply below_alloc | apply pw_below_drewN | apply below_drew1) | exact HB.out))) H9.out.1 (by rw [← H9.out.2.2.2.1]; exact rfind_f HIn.out.bnd.1 (by have := H9.out.2.2.1; omega) (by omega))).mono ?_); rintro e w9 ⟨v9, rfl, hR, hb⟩; obtain ⟨A11, c11, rfl, hc11, hC11⟩ := Kd.R_reads hR; have HR := Aside0.mk (And.intro hc11 hC11); have HBR := Aside0.mk (Go.RowKit.Below.refl w9.heap.size w9); have n_ := Aside0.mk (below_step (by repeat (first | (with_reducible first | exact HB.out | apply below_alloc | apply pw_below_drewN | apply below_drew1) | exact HB.out)) hb); clear HB; have HB := n_; clear n_; have n_ := Aside0.mk (below_step (by repeat (first | (with_reducible first | exact HB7.out | apply below_alloc | apply pw_below_drewN | apply below_drew1) | exact HB7.out)) hb); clear HB7; have HB7 := n_; clear n_; (try (have n_ := Aside0.mk (below_step (by repeat (first | (with_reducible first | exact HBQ.out | apply below_alloc | apply pw_below_drewN | apply below_drew1) | exact HBQ.out)) hb); clear HBQ; have HBQ := n_; clear n_)); clear hb hR hc11 hC11)
                    refine hK.out _ _ ?hsp_13_0 (fun hHeld => ?rep_13_0)
                    case hsp_13_0 => (first | exact hx9n | exact cell_below (by repeat (first | (with_reducible first | exact HB.out | apply below_alloc | apply pw_below_drewN | apply below_drew1) | exact HB.out)) H9.out.2.2.2.2.2 | go_keep)
                    clear hK K
                    try simp only [Act.put, List.setIfInBounds_toArray, List.set_cons_zero, List.set_cons_succ]
                    refine wpAnyH_ready (rs := [13]) (by kernel_rfl) (by simp) ?rdp_14
                    refine (AllReadyH.cons (o := { dst := some 99, op := Go.Op.call { callee := Go.Callee.value (Go.Operand.func 57), args := #[Go.Operand.tmp 93, Go.Operand.tmp 98], argTypes := #[68, 68] }, type := 4, pos := "law.go:56", after := #[{ on := 7, ground := Go.Ground.data }, { on := 12, ground := Go.Ground.data }, { on := 12, ground := Go.Ground.chain }, { on := 2, ground := Go.Ground.guard }], guard := some (2, true) }) rfl (fun K hK => ?stp_14_0) AllReadyH.nil)
                    case stp_14_0 =>
                      (go_simp; go_at_call 57; go_loud (refine (same_self A10 F.length c10 A11 F.length c11 F _ rfl rfl (Kd.C_below HQ.out.2 (by repeat (first | (with_reducible first | exact HBQ.out | apply below_alloc | apply pw_below_drewN | apply below_drew1) | exact HBQ.out))) HQ.out.1 (Kd.C_below HR.out.2 (by repeat (first | (with_reducible first | exact HBR.out | apply below_alloc | apply pw_below_drewN | apply below_drew1) | exact HBR.out))) HR.out.1 H9.out.2.2.2.2.1).mono ?_); rintro e w10 ⟨rfl, ⟨nd, rfl⟩⟩)
                      refine hK.out _ _ ?hsp_14_0 (fun hHeld => ?rep_14_0)
                      case hsp_14_0 => (first | exact hx9n | exact cell_below (by repeat (first | (with_reducible first | exact HB.out | apply below_alloc | apply pw_below_drewN | apply below_drew1) | exact HB.out)) H9.out.2.2.2.2.2 | go_keep)
                      clear hK K
                      try simp only [Act.put, List.setIfInBounds_toArray, List.set_cons_zero, List.set_cons_succ]
                      refine wpAnyH_take (i := 14) (oi := { dst := some 100, op := Go.Op.unOp Go.UnOp.not 4 (Go.Operand.tmp 99), type := 4, pos := "law.go:56", after := #[{ on := 13, ground := Go.Ground.data }, { on := 2, ground := Go.Ground.guard }], guard := some (2, true) }) (v := ?vp_15) rfl (by kernel_rfl) (by kernel_rfl) (by kernel_rfl) (fun _ _ _ h => h) (Or.inl ⟨by rfl, ?hyp_15⟩) (by assumption) ?rep_15
                      case hyp_15 => (intro w hSw; (try dsimp only at hSw); go_simp; try with_reducible rfl)
                      try simp only [Act.put, List.setIfInBounds_toArray, List.set_cons_zero, List.set_cons_succ]
                      refine wpAnyH_take (i := 15) (oi := { dst := some 101, op := Go.Op.pick (Go.Operand.tmp 88) (Go.Operand.tmp 100) (Go.Operand.const (Go.Value.bool false)), type := 4, pos := "law.go:56", after := #[{ on := 2, ground := Go.Ground.data }, { on := 14, ground := Go.Ground.data }], guard := none }) (v := ?vp_16) rfl (by kernel_rfl) (by kernel_rfl) (by kernel_rfl) (fun _ _ _ h => h) (Or.inl ⟨by rfl, ?hyp_16⟩) (by assumption) ?rep_16
                      case hyp_16 => (intro w hSw; (try dsimp only at hSw); go_simp; try with_reducible rfl)
                      try simp only [Act.put, List.setIfInBounds_toArray, List.set_cons_zero, List.set_cons_succ]
                      refine wpAnyH_done (by kernel_rfl) ?dnp_17 _
                      go_wp2_with fail
                      exact ⟨⟨k + 1, by go_num, by omega, by rw [HEA.out]; have h_ := H6.out; rw [List.length_append] at h_; exact R_keep h_ (by repeat (first | (with_reducible first | exact HB7.out | apply below_alloc | apply pw_below_drewN | apply below_drew1) | exact HB7.out)), MtT_mk (Mt.below H7.out (by repeat (first | (with_reducible first | exact HB7.out | apply below_alloc | apply pw_below_drewN | apply below_drew1) | exact HB7.out))) HQN.out HT.out, (by repeat (first | (with_reducible first | exact HB.out | apply below_alloc | apply pw_below_drewN | apply below_drew1) | exact HB.out))⟩, by simp only [intOf]; omega⟩

              · have d4 : ((k : Int) == 2) = false := by simp; omega
                have HD3 := Aside0.mk hk2
                clear hk2
                refine wp_region_held_drew (S := (fun w' => True)) (by kernel_rfl) ?s0q (fun hHeld => ?b0q)
                case s0q => trivial
                refine wpAnyH_take (i := 0) (oi := { dst := some 86, op := Go.Op.move (Go.Operand.tmp 9), type := 3, pos := "law.go:56", after := #[], guard := none }) (v := ?vq_18) rfl (by kernel_rfl) (by kernel_rfl) (by kernel_rfl) (fun _ _ _ h => h) (Or.inl ⟨by rfl, ?hyq_18⟩) (by assumption) ?req_18
                case hyq_18 => (intro w hSw; (try dsimp only at hSw); go_simp; try with_reducible rfl)
                try simp only [Act.put, List.setIfInBounds_toArray, List.set_cons_zero, List.set_cons_succ]
                refine wpAnyH_take (i := 1) (oi := { dst := some 87, op := Go.Op.binOp Go.BinOp.eql 3 (Go.Operand.tmp 86) (Go.Operand.const (Go.Value.int Go.IntKind.i64 2)) 3, type := 4, pos := "law.go:56", after := #[{ on := 0, ground := Go.Ground.data }], guard := none }) (v := ?vq_19) rfl (by kernel_rfl) (by kernel_rfl) (by kernel_rfl) (fun _ _ _ h => h) (Or.inl ⟨by rfl, ?hyq_19⟩) (by assumption) ?req_19
                case hyq_19 => (intro w hSw; (try dsimp only at hSw); go_simp; try with_reducible rfl)
                try simp only [Act.put, List.setIfInBounds_toArray, List.set_cons_zero, List.set_cons_succ]
                refine wpAnyH_take (i := 2) (oi := { dst := some 88, op := Go.Op.move (Go.Operand.tmp 87), type := 4, pos := "law.go:56", after := #[{ on := 1, ground := Go.Ground.data }], guard := none }) (v := ?vq_20) rfl (by kernel_rfl) (by kernel_rfl) (by kernel_rfl) (fun _ _ _ h => h) (Or.inl ⟨by rfl, ?hyq_20⟩) (by assumption) ?req_20
                case hyq_20 => (intro w hSw; (try dsimp only at hSw); go_simp; try with_reducible rfl)
                try simp only [Act.put, List.setIfInBounds_toArray, List.set_cons_zero, List.set_cons_succ]
                refine wpAnyH_take (i := 3) (oi := { dst := some 89, op := Go.Op.move (Go.Operand.tmp 5), type := 65, pos := "law.go:56", after := #[{ on := 2, ground := Go.Ground.guard }], guard := some (2, true) }) (v := undef) rfl (by kernel_rfl) (by kernel_rfl) (by kernel_rfl) (fun _ _ _ h => h) (Or.inr ⟨by rfl, rfl⟩) (by assumption) ?req_21
                try simp only [Act.put, List.setIfInBounds_toArray, List.set_cons_zero, List.set_cons_succ]
                refine wpAnyH_take (i := 4) (oi := { dst := some 90, op := Go.Op.move (Go.Operand.tmp 1), type := 45, pos := "law.go:56", after := #[{ on := 2, ground := Go.Ground.guard }], guard := some (2, true) }) (v := undef) rfl (by kernel_rfl) (by kernel_rfl) (by kernel_rfl) (fun _ _ _ h => h) (Or.inr ⟨by rfl, rfl⟩) (by assumption) ?req_22
                try simp only [Act.put, List.setIfInBounds_toArray, List.set_cons_zero, List.set_cons_succ]
                refine wpAnyH_take (i := 5) (oi := { dst := some 91, op := Go.Op.indexAddr 45 (Go.Operand.tmp 90) (Go.Operand.const (Go.Value.int Go.IntKind.i64 0)), type := 0, pos := "law.go:56", after := #[{ on := 4, ground := Go.Ground.data }, { on := 2, ground := Go.Ground.guard }], guard := some (2, true) }) (v := undef) rfl (by kernel_rfl) (by kernel_rfl) (by kernel_rfl) (fun _ _ _ h => h) (Or.inr ⟨by rfl, rfl⟩) (by assumption) ?req_23
                try simp only [Act.put, List.setIfInBounds_toArray, List.set_cons_zero, List.set_cons_succ]
                refine wpAnyH_take (i := 6) (oi := { dst := some 92, op := Go.Op.load 23 (Go.Operand.tmp 91), type := 23, pos := "law.go:56", after := #[{ on := 5, ground := Go.Ground.data }, { on := 2, ground := Go.Ground.guard }], guard := some (2, true) }) (v := undef) rfl (by kernel_rfl) (by kernel_rfl) (by kernel_rfl) (fun _ _ _ h => h) (Or.inr ⟨by rfl, rfl⟩) (by assumption) ?req_24
                try simp only [Act.put, List.setIfInBounds_toArray, List.set_cons_zero, List.set_cons_succ]
                refine wpAnyH_take (i := 7) (oi := { dst := some 93, op := Go.Op.call { callee := Go.Callee.value (Go.Operand.func 51), args := #[Go.Operand.tmp 89, Go.Operand.tmp 92], argTypes := #[65, 23] }, type := 68, pos := "law.go:56", after := #[{ on := 3, ground := Go.Ground.data }, { on := 6, ground := Go.Ground.data }, { on := 2, ground := Go.Ground.chain }, { on := 2, ground := Go.Ground.guard }], guard := some (2, true) }) (v := undef) rfl (by kernel_rfl) (by kernel_rfl) (by kernel_rfl) (fun _ _ _ h => h) (Or.inr ⟨by rfl, rfl⟩) (by assumption) ?req_25
                try simp only [Act.put, List.setIfInBounds_toArray, List.set_cons_zero, List.set_cons_succ]
                refine wpAnyH_take (i := 8) (oi := { dst := some 94, op := Go.Op.move (Go.Operand.tmp 0), type := 45, pos := "law.go:56", after := #[{ on := 2, ground := Go.Ground.guard }], guard := some (2, true) }) (v := undef) rfl (by kernel_rfl) (by kernel_rfl) (by kernel_rfl) (fun _ _ _ h => h) (Or.inr ⟨by rfl, rfl⟩) (by assumption) ?req_26
                try simp only [Act.put, List.setIfInBounds_toArray, List.set_cons_zero, List.set_cons_succ]
                refine wpAnyH_take (i := 9) (oi := { dst := some 95, op := Go.Op.move (Go.Operand.tmp 1), type := 45, pos := "law.go:56", after := #[{ on := 2, ground := Go.Ground.guard }], guard := some (2, true) }) (v := undef) rfl (by kernel_rfl) (by kernel_rfl) (by kernel_rfl) (fun _ _ _ h => h) (Or.inr ⟨by rfl, rfl⟩) (by assumption) ?req_27
                try simp only [Act.put, List.setIfInBounds_toArray, List.set_cons_zero, List.set_cons_succ]
                refine wpAnyH_take (i := 10) (oi := { dst := some 96, op := Go.Op.indexAddr 45 (Go.Operand.tmp 95) (Go.Operand.const (Go.Value.int Go.IntKind.i64 0)), type := 0, pos := "law.go:56", after := #[{ on := 9, ground := Go.Ground.data }, { on := 2, ground := Go.Ground.guard }], guard := some (2, true) }) (v := undef) rfl (by kernel_rfl) (by kernel_rfl) (by kernel_rfl) (fun _ _ _ h => h) (Or.inr ⟨by rfl, rfl⟩) (by assumption) ?req_28
                try simp only [Act.put, List.setIfInBounds_toArray, List.set_cons_zero, List.set_cons_succ]
                refine wpAnyH_take (i := 11) (oi := { dst := some 97, op := Go.Op.load 23 (Go.Operand.tmp 96), type := 23, pos := "law.go:56", after := #[{ on := 10, ground := Go.Ground.data }, { on := 2, ground := Go.Ground.guard }], guard := some (2, true) }) (v := undef) rfl (by kernel_rfl) (by kernel_rfl) (by kernel_rfl) (fun _ _ _ h => h) (Or.inr ⟨by rfl, rfl⟩) (by assumption) ?req_29
                try simp only [Act.put, List.setIfInBounds_toArray, List.set_cons_zero, List.set_cons_succ]
                refine wpAnyH_take (i := 12) (oi := { dst := some 98, op := Go.Op.call { callee := Go.Callee.value (Go.Operand.func 58), args := #[Go.Operand.tmp 94, Go.Operand.tmp 97], argTypes := #[45, 23] }, type := 68, pos := "law.go:56", after := #[{ on := 8, ground := Go.Ground.data }, { on := 11, ground := Go.Ground.data }, { on := 7, ground := Go.Ground.chain }, { on := 2, ground := Go.Ground.guard }], guard := some (2, true) }) (v := undef) rfl (by kernel_rfl) (by kernel_rfl) (by kernel_rfl) (fun _ _ _ h => h) (Or.inr ⟨by rfl, rfl⟩) (by assumption) ?req_30
                try simp only [Act.put, List.setIfInBounds_toArray, List.set_cons_zero, List.set_cons_succ]
                refine wpAnyH_take (i := 13) (oi := { dst := some 99, op := Go.Op.call { callee := Go.Callee.value (Go.Operand.func 57), args := #[Go.Operand.tmp 93, Go.Operand.tmp 98], argTypes := #[68, 68] }, type := 4, pos := "law.go:56", after := #[{ on := 7, ground := Go.Ground.data }, { on := 12, ground := Go.Ground.data }, { on := 12, ground := Go.Ground.chain }, { on := 2, ground := Go.Ground.guard }], guard := some (2, true) }) (v := undef) rfl (by kernel_rfl) (by kernel_rfl) (by kernel_rfl) (fun _ _ _ h => h) (Or.inr ⟨by rfl, rfl⟩) (by assumption) ?req_31
                try simp only [Act.put, List.setIfInBounds_toArray, List.set_cons_zero, List.set_cons_succ]
                refine wpAnyH_take (i := 14) (oi := { dst := some 100, op := Go.Op.unOp Go.UnOp.not 4 (Go.Operand.tmp 99), type := 4, pos := "law.go:56", after := #[{ on := 13, ground := Go.Ground.data }, { on := 2, ground := Go.Ground.guard }], guard := some (2, true) }) (v := undef) rfl (by kernel_rfl) (by kernel_rfl) (by kernel_rfl) (fun _ _ _ h => h) (Or.inr ⟨by rfl, rfl⟩) (by assumption) ?req_32
                try simp only [Act.put, List.setIfInBounds_toArray, List.set_cons_zero, List.set_cons_succ]
                refine wpAnyH_take (i := 15) (oi := { dst := some 101, op := Go.Op.pick (Go.Operand.tmp 88) (Go.Operand.tmp 100) (Go.Operand.const (Go.Value.bool false)), type := 4, pos := "law.go:56", after := #[{ on := 2, ground := Go.Ground.data }, { on := 14, ground := Go.Ground.data }], guard := none }) (v := ?vq_33) rfl (by kernel_rfl) (by kernel_rfl) (by kernel_rfl) (fun _ _ _ h => h) (Or.inl ⟨by rfl, ?hyq_33⟩) (by assumption) ?req_33
                case hyq_33 => (intro w hSw; (try dsimp only at hSw); go_simp; try with_reducible rfl)
                try simp only [Act.put, List.setIfInBounds_toArray, List.set_cons_zero, List.set_cons_succ]
                refine wpAnyH_done (by kernel_rfl) ?dnq_34 _
                go_wp2_with fail
                exact ⟨⟨k + 1, by go_num, by omega, by rw [HEA.out]; have h_ := H6.out; rw [List.length_append] at h_; exact R_keep h_ (by repeat (first | (with_reducible first | exact HB7.out | apply below_alloc | apply pw_below_drewN | apply below_drew1) | exact HB7.out)), MtT_mk (Mt.below H7.out (by repeat (first | (with_reducible first | exact HB7.out | apply below_alloc | apply pw_below_drewN | apply below_drew1) | exact HB7.out))) HQN.out HT.out, (by repeat (first | (with_reducible first | exact HB.out | apply below_alloc | apply pw_below_drewN | apply below_drew1) | exact HB.out))⟩, by simp only [intOf]; omega⟩

            · have hkl : ¬ ((k : Int) < (tx.length : Int)) := by omega
              have hke : k = tx.length := by omega
              have hae : acc = hitsD l [] tx := by rw [HACC.out.2, hke, List.take_length, hitsAll_D]
              have HAE := Aside0.mk hae
              have HB5 := Aside0.mk (Go.RowKit.Below.refl wr.heap.size wr)
              clear hke hae hlk
              go_wp2_with (first | (go_at_call 52; go_loud (refine (paronymref24_Stream.calls 6000000 A c l A3 c3 tx acc _ (Kd.V_reads' (Kd.V_below HV.out (by repeat (first | (with_reducible first | exact HB.out | apply below_alloc | apply pw_below_drewN | apply below_drew1) | exact HB.out)))).2.2 (Kd.V_reads' HV.out).2.1 (Kd.C_below HX.out.2 (by repeat (first | (with_reducible first | exact HB.out | apply below_alloc | apply pw_below_drewN | apply below_drew1) | exact HB.out))) HX.out.1 (by rw [HAE.out]; exact rstream_f HIn.out.bnd.1 (by have := HX60.out; omega) (by omega))).mono ?_); rintro e w6 ⟨v6, rfl, hR, hb⟩; obtain ⟨A6, c6, rfl, hc6, hC6⟩ := Kd.R_reads hR; have H5 := Aside0.mk (And.intro hc6 hC6); have n_ := Aside0.mk (below_step (by repeat (first | (with_reducible first | exact HB.out | apply below_alloc | apply pw_below_drewN | apply below_drew1) | exact HB.out)) hb); clear HB; have HB := n_; clear n_; have n_ := Aside0.mk (below_step (by repeat (first | (with_reducible first | exact HB5.out | apply below_alloc | apply pw_below_drewN | apply below_drew1) | exact HB5.out)) hb); clear HB5; have HB5 := n_; clear n_; clear hb hR hc6 hC6) | (go_at_call 57; go_loud (refine (all_same A7 c7 A6 c6 acc _ (R_keep HM.out.2 (by repeat (first | (with_reducible first | exact HB5.out | apply below_alloc | apply pw_below_drewN | apply below_drew1) | exact HB5.out))) H5.out.2 H5.out.1 (by have := HACC.out.1; omega)).mono ?_); rintro e w7 ⟨rfl, ⟨nd, rfl⟩⟩) | (go_at_call 59; go_loud (refine (reset_calls (MtT.below HM.out.1 (by repeat (first | (with_reducible first | exact HB5.out | apply below_alloc | apply pw_below_drewN | apply below_drew1) | exact HB5.out)))).mono ?_); rintro e w9 ⟨rfl, hM9, hg9⟩; have H9 := Aside0.mk hM9; have n_ := Aside0.mk (Go.RowKit.Below.grown (by repeat (first | (with_reducible first | exact HB.out | apply below_alloc | apply pw_below_drewN | apply below_drew1) | exact HB.out)) hg9 (Go.RowKit.Below.size (by repeat (first | (with_reducible first | exact HB.out | apply below_alloc | apply pw_below_drewN | apply below_drew1) | exact HB.out))) (fun k hk => by injection hk with hk; subst hk; exact Nat.le_trans HZ0.out HM.out.1.hg)); clear HB; have HB := n_; clear n_ hM9 hg9) | (go_at_call 54; go_loud (refine (read_calls H9.out).mono ?_); rintro e w8 ⟨rfl, rfl⟩) | (go_at_call 56; go_loud (refine (taken_calls H9.out).mono ?_); rintro e w8 ⟨rfl, rfl⟩))
              refine ⟨⟨i + 1, by go_num, by omega, (by repeat (first | (with_reducible first | exact HB.out | apply below_alloc | apply pw_below_drewN | apply below_drew1) | exact HB.out)), H9.out, fun j h hj => ?_⟩, by simp only [intOf]; omega⟩
              rcases Nat.lt_or_ge j i with h1 | h1
              · exact H60.out j h h1
              · have : j = i := by omega
                subst this
                rw [← HTX.out]; omega
        · have il : ¬ ((i : Int) < (ts.length : Int)) := by omega
          go_wp2
          go_ret
          exact ⟨by first | rfl | simp, (by repeat (first | (with_reducible first | exact HB.out | apply below_alloc | apply pw_below_drewN | apply below_drew1) | exact HB.out))⟩
end Go.Proofs.Ytgfmplhpoblleaa.FailW
