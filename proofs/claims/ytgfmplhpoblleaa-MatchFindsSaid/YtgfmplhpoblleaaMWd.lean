/- The statement MatchFinds, walked. -/
import Derived.Test.YtgfmplhpoblleaaMB13
namespace Go.Proofs.Ytgfmplhpoblleaa.FailW
open Go.RowKit Go.Shelf Go.Lib Go.Proofs Go.Proofs.YtgfmplhpoblleaaW.PrintWords Go.Proofs.YtgfmplhpoblleaaW.PrintLast Go.Proofs.YtgfmplhpoblleaaW.PrintMore Go.Proofs.Ytgfmplhpoblleaa.PRank Go.Proofs.Ytgfmplhpoblleaa.PFB Go.Proofs.Ytgfmplhpoblleaa.RankW Go.Proofs.Ytgfmplhpoblleaa.SortOwn Go.Proofs.Ytgfmplhpoblleaa
open Go.Proofs.Ytgfmplhpoblleaa.Cmps hiding dedup
set_option linter.unusedVariables false
set_option linter.unusedSimpArgs false

theorem findD_len (l : List (List Int)) (t : List Int) : ∀ (d a : Nat), (findD l t a d).length ≤ l.length * d
  | 0, a => by simp [findD]
  | d + 1, a => by
    have h1 := findD_len l t d (a + 1)
    have h2 := plcT_len t a l 0
    rw [findD, List.length_append, Nat.mul_succ]
    omega
theorem con_b (At : Option Addr) (ct : Nat) (tx : List Int) (Ap : Option Addr) (cp : Nat) (p : List Int) (b : Bool) (w : World) (hT : Kd.C (Kd.int .i64) w At tx.length tx) (hP : Kd.C (Kd.int .i64) w Ap p.length p) (hcp : p.length ≤ cp) (htx : tx.length ≤ 300) (hp : p.length ≤ 20) (hb : conD tx p 0 (tx.length + 1) = b) :
    Calls Try.prog 60 #[.slice At tx.length ct, .slice Ap p.length cp] w fun e w' => e = .returned (.bool b) ∧ Go.RowKit.Below w.heap.size w w' := by
  subst hb
  exact mcontains_calls At ct tx Ap cp p w hT hP hcp htx hp
theorem rcon_b (At : Option Addr) (ct : Nat) (tx : List Int) (Ap : Option Addr) (cp : Nat) (p : List Int) (b : Bool) (w : World) (hT : Kd.C (Kd.int .i64) w At tx.length tx) (hct : tx.length ≤ ct) (hP : Kd.C (Kd.int .i64) w Ap p.length p) (hcp : p.length ≤ cp) (htx : tx.length ≤ 300) (hp : p.length ≤ 20) (hb : conD tx p 0 (tx.length + 1) = b) :
    Calls Try.prog 61 #[.slice At tx.length ct, .slice Ap p.length cp] w fun e w' => e = .returned (.bool b) ∧ Drawn0 w w' := by
  subst hb
  exact paronymref24_Contains.calls 6000000 At ct tx Ap cp p _ w hT hct hP hcp (rcon_f (by omega) (by omega) (by omega))
set_option maxHeartbeats 8000000 in
set_option maxRecDepth 100000 in
theorem finds24_calls (A : Option Addr) (c : Nat) (l : List (List Int)) (A1 : Option Addr) (c1 : Nat) (tx : List Int) (w : World) (hV : Kd.V (Kd.slice 3 (Kd.int .i64)) 23 w w.heap.size (fun _ => True) (.slice A l.length c) l) (hT : Kd.V (Kd.int .i64) 3 w w.heap.size (fun _ => True) (.slice A1 tx.length c1) tx) :
    Calls Try.prog 15 #[.slice A l.length c, .slice A1 tx.length c1] w fun e w' => e = .returned (.bool true) ∧ Go.RowKit.Below w.heap.size w w' := by
  have HV := Aside0.mk hV
  have HT := Aside0.mk hT
  have HB := Aside0.mk (Go.RowKit.Below.refl w.heap.size w)
  clear hV hT
  obtain ⟨b, hb, hbx⟩ := small_f l 15 (by omega) 6000000 (by omega)
  have HS := Aside0.mk hb
  clear hb
  cases b with
  | false =>
    clear hbx
    go_enter Try.func15, Try.ntmps15
    go_wp2_with (first | (go_at_call 49; refine (awake24_calls _).mono ?_; rintro e w2 ⟨rfl, hb2⟩; have n_ := Aside0.mk (below_step (by repeat (first | (with_reducible first | exact HB.out | apply below_alloc | apply pw_below_drewN | apply below_drew1) | exact HB.out)) hb2); clear HB; have HB := n_; clear n_; clear hb2) | (go_at_call 34; refine (paronymref22_Small.calls 6000000 A c l 15 false _ (Kd.V_reads' (Kd.V_below HV.out (by repeat (first | (with_reducible first | exact HB.out | apply below_alloc | apply pw_below_drewN | apply below_drew1) | exact HB.out)))).2.2 (Kd.V_reads' HV.out).2.1 HS.out).mono ?_; rintro e w3 ⟨rfl, ⟨nd, rfl⟩⟩))
    go_ret
    exact ⟨rfl, (by repeat (first | (with_reducible first | exact HB.out | apply below_alloc | apply pw_below_drewN | apply below_drew1) | exact HB.out))⟩
  | true =>
    have hIn : In 20 l := In.mono ⟨(hbx rfl).1, (hbx rfl).2⟩ (by omega)
    have HIn := Aside0.mk hIn
    have he := empty_f l (by have := hIn.len; omega) 6000000 (by omega)
    clear hbx hIn
    by_cases hx : tx.length > 100
    · have hx1 : decide (100 < (tx.length : Int)) = true := decide_eq_true (by omega)
      go_enter Try.func15, Try.ntmps15
      go_wp2_with (first | (go_at_call 49; refine (awake24_calls _).mono ?_; rintro e w2 ⟨rfl, hb2⟩; have n_ := Aside0.mk (below_step (by repeat (first | (with_reducible first | exact HB.out | apply below_alloc | apply pw_below_drewN | apply below_drew1) | exact HB.out)) hb2); clear HB; have HB := n_; clear n_; clear hb2) | (go_at_call 34; refine (paronymref22_Small.calls 6000000 A c l 15 true _ (Kd.V_reads' (Kd.V_below HV.out (by repeat (first | (with_reducible first | exact HB.out | apply below_alloc | apply pw_below_drewN | apply below_drew1) | exact HB.out)))).2.2 (Kd.V_reads' HV.out).2.1 HS.out).mono ?_; rintro e w3 ⟨rfl, ⟨nd, rfl⟩⟩))
      go_ret
      exact ⟨rfl, (by repeat (first | (with_reducible first | exact HB.out | apply below_alloc | apply pw_below_drewN | apply below_drew1) | exact HB.out))⟩
    have hx1 : decide (100 < (tx.length : Int)) = false := decide_eq_false (by omega)
    obtain ⟨b, hb⟩ : ∃ b, l.any (·.isEmpty) = b := ⟨_, rfl⟩
    rw [hb] at he
    have HE := Aside0.mk he
    have HEm := Aside0.mk hb
    clear he hb
    cases b with
    | true =>
      go_enter Try.func15, Try.ntmps15
      go_wp2_with (first | (go_at_call 49; refine (awake24_calls _).mono ?_; rintro e w2 ⟨rfl, hb2⟩; have n_ := Aside0.mk (below_step (by repeat (first | (with_reducible first | exact HB.out | apply below_alloc | apply pw_below_drewN | apply below_drew1) | exact HB.out)) hb2); clear HB; have HB := n_; clear n_; clear hb2) | (go_at_call 34; refine (paronymref22_Small.calls 6000000 A c l 15 true _ (Kd.V_reads' (Kd.V_below HV.out (by repeat (first | (with_reducible first | exact HB.out | apply below_alloc | apply pw_below_drewN | apply below_drew1) | exact HB.out)))).2.2 (Kd.V_reads' HV.out).2.1 HS.out).mono ?_; rintro e w3 ⟨rfl, ⟨nd, rfl⟩⟩) | (go_at_call 35; refine (paronymref22_Empty.calls 6000000 A c l true _ (Kd.V_reads' (Kd.V_below HV.out (by repeat (first | (with_reducible first | exact HB.out | apply below_alloc | apply pw_below_drewN | apply below_drew1) | exact HB.out)))).2.2 (Kd.V_reads' HV.out).2.1 HE.out).mono ?_; rintro e w3 ⟨rfl, ⟨nd, rfl⟩⟩) | (go_at_call 50; refine (mnew_empty_calls A c l _ (Kd.V_reads' (Kd.V_below HV.out (by repeat (first | (with_reducible first | exact HB.out | apply below_alloc | apply pw_below_drewN | apply below_drew1) | exact HB.out)))).2.2 (by have := HIn.out.len; omega) (by have := HIn.out.bnd.2; omega) HEm.out).mono ?_; rintro e w4 ⟨rfl, hb⟩; have n_ := Aside0.mk (below_step (by repeat (first | (with_reducible first | exact HB.out | apply below_alloc | apply pw_below_drewN | apply below_drew1) | exact HB.out)) hb); clear HB; have HB := n_; clear n_; clear hb))
      go_ret
      exact ⟨rfl, (by repeat (first | (with_reducible first | exact HB.out | apply below_alloc | apply pw_below_drewN | apply below_drew1) | exact HB.out))⟩
    | false =>
      go_enter Try.func15, Try.ntmps15
      go_wp2_with (first | (go_at_call 49; refine (awake24_calls _).mono ?_; rintro e w2 ⟨rfl, hb2⟩; have n_ := Aside0.mk (below_step (by repeat (first | (with_reducible first | exact HB.out | apply below_alloc | apply pw_below_drewN | apply below_drew1) | exact HB.out)) hb2); clear HB; have HB := n_; clear n_; clear hb2) | (go_at_call 34; refine (paronymref22_Small.calls 6000000 A c l 15 true _ (Kd.V_reads' (Kd.V_below HV.out (by repeat (first | (with_reducible first | exact HB.out | apply below_alloc | apply pw_below_drewN | apply below_drew1) | exact HB.out)))).2.2 (Kd.V_reads' HV.out).2.1 HS.out).mono ?_; rintro e w3 ⟨rfl, ⟨nd, rfl⟩⟩) | (go_at_call 35; refine (paronymref22_Empty.calls 6000000 A c l false _ (Kd.V_reads' (Kd.V_below HV.out (by repeat (first | (with_reducible first | exact HB.out | apply below_alloc | apply pw_below_drewN | apply below_drew1) | exact HB.out)))).2.2 (Kd.V_reads' HV.out).2.1 HE.out).mono ?_; rintro e w3 ⟨rfl, ⟨nd, rfl⟩⟩) | (go_at_call 50; go_loud (refine (mnew_n A l.length c l _ rfl (Kd.V_reads' (Kd.V_below HV.out (by repeat (first | (with_reducible first | exact HB.out | apply below_alloc | apply pw_below_drewN | apply below_drew1) | exact HB.out)))).2.2 HIn.out HEm.out).mono ?_); rintro e w4 ⟨w0, g, rfl, ⟨s, pp, t, vl, hM⟩, hb, hz⟩; have HM := Aside0.mk hM; have HB2 := Aside0.mk (Go.RowKit.Below.refl w4.heap.size w4); have n_ := Aside0.mk (below_step (by repeat (first | (with_reducible first | exact HB.out | apply below_alloc | apply pw_below_drewN | apply below_drew1) | exact HB.out)) hb); clear HB; have HB := n_; clear n_; clear hM hb hz))
      go_loopw [7] (fun iv wr => ∃ i : Nat, iv = .int .i64 i ∧ i ≤ l.length ∧ Go.RowKit.Below w4.heap.size w4 wr) (fun iv wr => l.length - (intOf iv).toNat)
      case atStart => exact ⟨0, rfl, Nat.zero_le _, (by repeat (first | (with_reducible first | exact HB2.out | apply below_alloc | apply pw_below_drewN | apply below_drew1) | exact HB2.out))⟩
      case round =>
        obtain ⟨i, rfl, hi, hbr⟩ := hrel
        have n_ := Aside0.mk (HB.out.trans (hbr.mono HB.out.size))
        clear HB
        have HB := n_
        clear n_ HB2
        have HB2 := Aside0.mk hbr
        clear hbr
        by_cases hlt : i < l.length
        · obtain ⟨ad, A3, c3, rfl, hxc, hl1, hi1⟩ := kRows_at (Kd.V_reads' HV.out).2.2 i hlt
          have HX := Aside0.mk (And.intro hl1 hi1)
          clear hl1 hi1
          have il : (i : Int) < (l.length : Int) := by omega
          obtain ⟨b, hb⟩ : ∃ b, conD tx l[i] 0 (tx.length + 1) = b := ⟨_, rfl⟩
          have HBv := Aside0.mk hb
          clear hb
          have hxr := cell_below HB.out hxc
          have hxr0 := hxc
          have HXC := Aside0.mk hxc
          clear hxc hxr0
          have hll := HIn.out.len
          cases b with
          | false =>
            go_wp2_with fail
            refine wp_region_held_drew (S := (fun w' => w'.cell? (ad.add i) = some (.slice A3 l[i].length c3))) (by kernel_rfl) ?s0f (fun hHeld => ?b0f)
            case s0f => (first | exact hxr | exact cell_below (by repeat (first | (with_reducible first | exact HB.out | apply below_alloc | apply pw_below_drewN | apply below_drew1) | exact HB.out)) HXC.out | go_keep)
            refine wpAnyH_take (i := 0) (oi := { dst := some 46, op := Go.Op.move (Go.Operand.tmp 1), type := 23, pos := "law.go:30", after := #[], guard := none }) (v := ?vf_1) rfl (by kernel_rfl) (by kernel_rfl) (by kernel_rfl) (fun _ _ _ h => h) (Or.inl ⟨by rfl, ?hyf_1⟩) (by assumption) ?ref_1
            case hyf_1 => (intro w hSw; (try dsimp only at hSw); go_simp; try with_reducible rfl)
            try simp only [Act.put, List.setIfInBounds_toArray, List.set_cons_zero, List.set_cons_succ]
            refine wpAnyH_take (i := 1) (oi := { dst := some 47, op := Go.Op.move (Go.Operand.tmp 0), type := 45, pos := "law.go:30", after := #[], guard := none }) (v := ?vf_2) rfl (by kernel_rfl) (by kernel_rfl) (by kernel_rfl) (fun _ _ _ h => h) (Or.inl ⟨by rfl, ?hyf_2⟩) (by assumption) ?ref_2
            case hyf_2 => (intro w hSw; (try dsimp only at hSw); go_simp; try with_reducible rfl)
            try simp only [Act.put, List.setIfInBounds_toArray, List.set_cons_zero, List.set_cons_succ]
            refine wpAnyH_take (i := 2) (oi := { dst := some 48, op := Go.Op.move (Go.Operand.tmp 7), type := 3, pos := "law.go:30", after := #[], guard := none }) (v := ?vf_3) rfl (by kernel_rfl) (by kernel_rfl) (by kernel_rfl) (fun _ _ _ h => h) (Or.inl ⟨by rfl, ?hyf_3⟩) (by assumption) ?ref_3
            case hyf_3 => (intro w hSw; (try dsimp only at hSw); go_simp; try with_reducible rfl)
            try simp only [Act.put, List.setIfInBounds_toArray, List.set_cons_zero, List.set_cons_succ]
            refine wpAnyH_take (i := 3) (oi := { dst := some 49, op := Go.Op.indexAddr 45 (Go.Operand.tmp 47) (Go.Operand.tmp 48), type := 0, pos := "law.go:30", after := #[{ on := 1, ground := Go.Ground.data }, { on := 2, ground := Go.Ground.data }], guard := none }) (v := ?vf_4) rfl (by kernel_rfl) (by kernel_rfl) (by kernel_rfl) (fun _ _ _ h => h) (Or.inl ⟨by rfl, ?hyf_4⟩) (by assumption) ?ref_4
            case hyf_4 => (intro w hSw; (try dsimp only at hSw); go_simp; try with_reducible rfl)
            try simp only [Act.put, List.setIfInBounds_toArray, List.set_cons_zero, List.set_cons_succ]
            refine wpAnyH_take (i := 4) (oi := { dst := some 50, op := Go.Op.load 23 (Go.Operand.tmp 49), type := 23, pos := "law.go:30", after := #[{ on := 3, ground := Go.Ground.data }], guard := none }) (v := ?vf_5) rfl (by kernel_rfl) (by kernel_rfl) (by kernel_rfl) (fun _ _ _ h => h) (Or.inl ⟨by rfl, ?hyf_5⟩) (by assumption) ?ref_5
            case hyf_5 => (intro w hSw; (try dsimp only at hSw); go_simp; try with_reducible rfl)
            try simp only [Act.put, List.setIfInBounds_toArray, List.set_cons_zero, List.set_cons_succ]
            refine wpAnyH_take (i := 6) (oi := { dst := some 52, op := Go.Op.move (Go.Operand.tmp 1), type := 23, pos := "law.go:30", after := #[], guard := none }) (v := ?vf_6) rfl (by kernel_rfl) (by kernel_rfl) (by kernel_rfl) (fun _ _ _ h => h) (Or.inl ⟨by rfl, ?hyf_6⟩) (by assumption) ?ref_6
            case hyf_6 => (intro w hSw; (try dsimp only at hSw); go_simp; try with_reducible rfl)
            try simp only [Act.put, List.setIfInBounds_toArray, List.set_cons_zero, List.set_cons_succ]
            refine wpAnyH_take (i := 7) (oi := { dst := some 53, op := Go.Op.move (Go.Operand.tmp 0), type := 45, pos := "law.go:30", after := #[], guard := none }) (v := ?vf_7) rfl (by kernel_rfl) (by kernel_rfl) (by kernel_rfl) (fun _ _ _ h => h) (Or.inl ⟨by rfl, ?hyf_7⟩) (by assumption) ?ref_7
            case hyf_7 => (intro w hSw; (try dsimp only at hSw); go_simp; try with_reducible rfl)
            try simp only [Act.put, List.setIfInBounds_toArray, List.set_cons_zero, List.set_cons_succ]
            refine wpAnyH_take (i := 8) (oi := { dst := some 54, op := Go.Op.move (Go.Operand.tmp 7), type := 3, pos := "law.go:30", after := #[], guard := none }) (v := ?vf_8) rfl (by kernel_rfl) (by kernel_rfl) (by kernel_rfl) (fun _ _ _ h => h) (Or.inl ⟨by rfl, ?hyf_8⟩) (by assumption) ?ref_8
            case hyf_8 => (intro w hSw; (try dsimp only at hSw); go_simp; try with_reducible rfl)
            try simp only [Act.put, List.setIfInBounds_toArray, List.set_cons_zero, List.set_cons_succ]
            refine wpAnyH_take (i := 9) (oi := { dst := some 55, op := Go.Op.indexAddr 45 (Go.Operand.tmp 53) (Go.Operand.tmp 54), type := 0, pos := "law.go:30", after := #[{ on := 7, ground := Go.Ground.data }, { on := 8, ground := Go.Ground.data }], guard := none }) (v := ?vf_9) rfl (by kernel_rfl) (by kernel_rfl) (by kernel_rfl) (fun _ _ _ h => h) (Or.inl ⟨by rfl, ?hyf_9⟩) (by assumption) ?ref_9
            case hyf_9 => (intro w hSw; (try dsimp only at hSw); go_simp; try with_reducible rfl)
            try simp only [Act.put, List.setIfInBounds_toArray, List.set_cons_zero, List.set_cons_succ]
            refine wpAnyH_take (i := 10) (oi := { dst := some 56, op := Go.Op.load 23 (Go.Operand.tmp 55), type := 23, pos := "law.go:30", after := #[{ on := 9, ground := Go.Ground.data }], guard := none }) (v := ?vf_10) rfl (by kernel_rfl) (by kernel_rfl) (by kernel_rfl) (fun _ _ _ h => h) (Or.inl ⟨by rfl, ?hyf_10⟩) (by assumption) ?ref_10
            case hyf_10 => (intro w hSw; (try dsimp only at hSw); go_simp; try with_reducible rfl)
            try simp only [Act.put, List.setIfInBounds_toArray, List.set_cons_zero, List.set_cons_succ]
            refine wpAnyH_ready (rs := [5]) (by kernel_rfl) (by simp) ?rdf_11
            refine (AllReadyH.cons (o := { dst := some 51, op := Go.Op.call { callee := Go.Callee.value (Go.Operand.func 60), args := #[Go.Operand.tmp 46, Go.Operand.tmp 50], argTypes := #[23, 23] }, type := 4, pos := "law.go:30", after := #[{ on := 0, ground := Go.Ground.data }, { on := 4, ground := Go.Ground.data }], guard := none }) rfl (fun K hK => ?stf_11_0) AllReadyH.nil)
            case stf_11_0 =>
              (go_simp; go_at_call 60; refine (con_b A1 c1 tx A3 c3 l[i] _ _ (Kd.V_reads' (Kd.V_below HT.out (by repeat (first | (with_reducible first | exact HB.out | apply below_alloc | apply pw_below_drewN | apply below_drew1) | exact HB.out)))).2.2 (Kd.C_below HX.out.2 (by repeat (first | (with_reducible first | exact HB.out | apply below_alloc | apply pw_below_drewN | apply below_drew1) | exact HB.out))) HX.out.1 (by omega) (HIn.out.all _ (List.getElem_mem _)) HBv.out).mono ?_; rintro e w3 ⟨rfl, hb⟩; have n_ := Aside0.mk (below_step (by repeat (first | (with_reducible first | exact HB.out | apply below_alloc | apply pw_below_drewN | apply below_drew1) | exact HB.out)) hb); clear HB; have HB := n_; clear n_; have n_ := Aside0.mk (below_step (by repeat (first | (with_reducible first | exact HB2.out | apply below_alloc | apply pw_below_drewN | apply below_drew1) | exact HB2.out)) hb); clear HB2; have HB2 := n_; clear n_; clear hb)
              refine hK.out _ _ ?hsf_11_0 (fun hHeld => ?ref_11_0)
              case hsf_11_0 => (first | exact hxr | exact cell_below (by repeat (first | (with_reducible first | exact HB.out | apply below_alloc | apply pw_below_drewN | apply below_drew1) | exact HB.out)) HXC.out | go_keep)
              clear hK K
              try simp only [Act.put, List.setIfInBounds_toArray, List.set_cons_zero, List.set_cons_succ]
              refine wpAnyH_ready (rs := [11]) (by kernel_rfl) (by simp) ?rdf_12
              refine (AllReadyH.cons (o := { dst := some 57, op := Go.Op.call { callee := Go.Callee.value (Go.Operand.func 61), args := #[Go.Operand.tmp 52, Go.Operand.tmp 56], argTypes := #[23, 23] }, type := 4, pos := "law.go:30", after := #[{ on := 6, ground := Go.Ground.data }, { on := 10, ground := Go.Ground.data }, { on := 5, ground := Go.Ground.chain }], guard := none }) rfl (fun K hK => ?stf_12_0) AllReadyH.nil)
              case stf_12_0 =>
                (go_simp; go_at_call 61; refine (rcon_b A1 c1 tx A3 c3 l[i] _ _ (Kd.V_reads' (Kd.V_below HT.out (by repeat (first | (with_reducible first | exact HB.out | apply below_alloc | apply pw_below_drewN | apply below_drew1) | exact HB.out)))).2.2 (Kd.V_reads' HT.out).2.1 (Kd.C_below HX.out.2 (by repeat (first | (with_reducible first | exact HB.out | apply below_alloc | apply pw_below_drewN | apply below_drew1) | exact HB.out))) HX.out.1 (by omega) (HIn.out.all _ (List.getElem_mem _)) HBv.out).mono ?_; rintro e w3 ⟨rfl, ⟨nd, rfl⟩⟩)
                refine hK.out _ _ ?hsf_12_0 (fun hHeld => ?ref_12_0)
                case hsf_12_0 => (first | exact hxr | exact cell_below (by repeat (first | (with_reducible first | exact HB.out | apply below_alloc | apply pw_below_drewN | apply below_drew1) | exact HB.out)) HXC.out | go_keep)
                clear hK K
                try simp only [Act.put, List.setIfInBounds_toArray, List.set_cons_zero, List.set_cons_succ]
                refine wpAnyH_take (i := 12) (oi := { dst := some 58, op := Go.Op.binOp Go.BinOp.neq 4 (Go.Operand.tmp 51) (Go.Operand.tmp 57) 4, type := 4, pos := "law.go:30", after := #[{ on := 5, ground := Go.Ground.data }, { on := 11, ground := Go.Ground.data }], guard := none }) (v := ?vf_13) rfl (by kernel_rfl) (by kernel_rfl) (by kernel_rfl) (fun _ _ _ h => h) (Or.inl ⟨by rfl, ?hyf_13⟩) (by assumption) ?ref_13
                case hyf_13 => (intro w hSw; (try dsimp only at hSw); go_simp; try with_reducible rfl)
                try simp only [Act.put, List.setIfInBounds_toArray, List.set_cons_zero, List.set_cons_succ]
                refine wpAnyH_done (by kernel_rfl) ?dnf_14 _
                go_wp2_with fail
                exact ⟨⟨i + 1, by go_num, by omega, (by repeat (first | (with_reducible first | exact HB2.out | apply below_alloc | apply pw_below_drewN | apply below_drew1) | exact HB2.out))⟩, by simp only [intOf]; omega⟩

          | true =>
            go_wp2_with fail
            refine wp_region_held_drew (S := (fun w' => w'.cell? (ad.add i) = some (.slice A3 l[i].length c3))) (by kernel_rfl) ?s0t (fun hHeld => ?b0t)
            case s0t => (first | exact hxr | exact cell_below (by repeat (first | (with_reducible first | exact HB.out | apply below_alloc | apply pw_below_drewN | apply below_drew1) | exact HB.out)) HXC.out | go_keep)
            refine wpAnyH_take (i := 0) (oi := { dst := some 46, op := Go.Op.move (Go.Operand.tmp 1), type := 23, pos := "law.go:30", after := #[], guard := none }) (v := ?vt_15) rfl (by kernel_rfl) (by kernel_rfl) (by kernel_rfl) (fun _ _ _ h => h) (Or.inl ⟨by rfl, ?hyt_15⟩) (by assumption) ?ret_15
            case hyt_15 => (intro w hSw; (try dsimp only at hSw); go_simp; try with_reducible rfl)
            try simp only [Act.put, List.setIfInBounds_toArray, List.set_cons_zero, List.set_cons_succ]
            refine wpAnyH_take (i := 1) (oi := { dst := some 47, op := Go.Op.move (Go.Operand.tmp 0), type := 45, pos := "law.go:30", after := #[], guard := none }) (v := ?vt_16) rfl (by kernel_rfl) (by kernel_rfl) (by kernel_rfl) (fun _ _ _ h => h) (Or.inl ⟨by rfl, ?hyt_16⟩) (by assumption) ?ret_16
            case hyt_16 => (intro w hSw; (try dsimp only at hSw); go_simp; try with_reducible rfl)
            try simp only [Act.put, List.setIfInBounds_toArray, List.set_cons_zero, List.set_cons_succ]
            refine wpAnyH_take (i := 2) (oi := { dst := some 48, op := Go.Op.move (Go.Operand.tmp 7), type := 3, pos := "law.go:30", after := #[], guard := none }) (v := ?vt_17) rfl (by kernel_rfl) (by kernel_rfl) (by kernel_rfl) (fun _ _ _ h => h) (Or.inl ⟨by rfl, ?hyt_17⟩) (by assumption) ?ret_17
            case hyt_17 => (intro w hSw; (try dsimp only at hSw); go_simp; try with_reducible rfl)
            try simp only [Act.put, List.setIfInBounds_toArray, List.set_cons_zero, List.set_cons_succ]
            refine wpAnyH_take (i := 3) (oi := { dst := some 49, op := Go.Op.indexAddr 45 (Go.Operand.tmp 47) (Go.Operand.tmp 48), type := 0, pos := "law.go:30", after := #[{ on := 1, ground := Go.Ground.data }, { on := 2, ground := Go.Ground.data }], guard := none }) (v := ?vt_18) rfl (by kernel_rfl) (by kernel_rfl) (by kernel_rfl) (fun _ _ _ h => h) (Or.inl ⟨by rfl, ?hyt_18⟩) (by assumption) ?ret_18
            case hyt_18 => (intro w hSw; (try dsimp only at hSw); go_simp; try with_reducible rfl)
            try simp only [Act.put, List.setIfInBounds_toArray, List.set_cons_zero, List.set_cons_succ]
            refine wpAnyH_take (i := 4) (oi := { dst := some 50, op := Go.Op.load 23 (Go.Operand.tmp 49), type := 23, pos := "law.go:30", after := #[{ on := 3, ground := Go.Ground.data }], guard := none }) (v := ?vt_19) rfl (by kernel_rfl) (by kernel_rfl) (by kernel_rfl) (fun _ _ _ h => h) (Or.inl ⟨by rfl, ?hyt_19⟩) (by assumption) ?ret_19
            case hyt_19 => (intro w hSw; (try dsimp only at hSw); go_simp; try with_reducible rfl)
            try simp only [Act.put, List.setIfInBounds_toArray, List.set_cons_zero, List.set_cons_succ]
            refine wpAnyH_take (i := 6) (oi := { dst := some 52, op := Go.Op.move (Go.Operand.tmp 1), type := 23, pos := "law.go:30", after := #[], guard := none }) (v := ?vt_20) rfl (by kernel_rfl) (by kernel_rfl) (by kernel_rfl) (fun _ _ _ h => h) (Or.inl ⟨by rfl, ?hyt_20⟩) (by assumption) ?ret_20
            case hyt_20 => (intro w hSw; (try dsimp only at hSw); go_simp; try with_reducible rfl)
            try simp only [Act.put, List.setIfInBounds_toArray, List.set_cons_zero, List.set_cons_succ]
            refine wpAnyH_take (i := 7) (oi := { dst := some 53, op := Go.Op.move (Go.Operand.tmp 0), type := 45, pos := "law.go:30", after := #[], guard := none }) (v := ?vt_21) rfl (by kernel_rfl) (by kernel_rfl) (by kernel_rfl) (fun _ _ _ h => h) (Or.inl ⟨by rfl, ?hyt_21⟩) (by assumption) ?ret_21
            case hyt_21 => (intro w hSw; (try dsimp only at hSw); go_simp; try with_reducible rfl)
            try simp only [Act.put, List.setIfInBounds_toArray, List.set_cons_zero, List.set_cons_succ]
            refine wpAnyH_take (i := 8) (oi := { dst := some 54, op := Go.Op.move (Go.Operand.tmp 7), type := 3, pos := "law.go:30", after := #[], guard := none }) (v := ?vt_22) rfl (by kernel_rfl) (by kernel_rfl) (by kernel_rfl) (fun _ _ _ h => h) (Or.inl ⟨by rfl, ?hyt_22⟩) (by assumption) ?ret_22
            case hyt_22 => (intro w hSw; (try dsimp only at hSw); go_simp; try with_reducible rfl)
            try simp only [Act.put, List.setIfInBounds_toArray, List.set_cons_zero, List.set_cons_succ]
            refine wpAnyH_take (i := 9) (oi := { dst := some 55, op := Go.Op.indexAddr 45 (Go.Operand.tmp 53) (Go.Operand.tmp 54), type := 0, pos := "law.go:30", after := #[{ on := 7, ground := Go.Ground.data }, { on := 8, ground := Go.Ground.data }], guard := none }) (v := ?vt_23) rfl (by kernel_rfl) (by kernel_rfl) (by kernel_rfl) (fun _ _ _ h => h) (Or.inl ⟨by rfl, ?hyt_23⟩) (by assumption) ?ret_23
            case hyt_23 => (intro w hSw; (try dsimp only at hSw); go_simp; try with_reducible rfl)
            try simp only [Act.put, List.setIfInBounds_toArray, List.set_cons_zero, List.set_cons_succ]
            refine wpAnyH_take (i := 10) (oi := { dst := some 56, op := Go.Op.load 23 (Go.Operand.tmp 55), type := 23, pos := "law.go:30", after := #[{ on := 9, ground := Go.Ground.data }], guard := none }) (v := ?vt_24) rfl (by kernel_rfl) (by kernel_rfl) (by kernel_rfl) (fun _ _ _ h => h) (Or.inl ⟨by rfl, ?hyt_24⟩) (by assumption) ?ret_24
            case hyt_24 => (intro w hSw; (try dsimp only at hSw); go_simp; try with_reducible rfl)
            try simp only [Act.put, List.setIfInBounds_toArray, List.set_cons_zero, List.set_cons_succ]
            refine wpAnyH_ready (rs := [5]) (by kernel_rfl) (by simp) ?rdt_25
            refine (AllReadyH.cons (o := { dst := some 51, op := Go.Op.call { callee := Go.Callee.value (Go.Operand.func 60), args := #[Go.Operand.tmp 46, Go.Operand.tmp 50], argTypes := #[23, 23] }, type := 4, pos := "law.go:30", after := #[{ on := 0, ground := Go.Ground.data }, { on := 4, ground := Go.Ground.data }], guard := none }) rfl (fun K hK => ?stt_25_0) AllReadyH.nil)
            case stt_25_0 =>
              (go_simp; go_at_call 60; refine (con_b A1 c1 tx A3 c3 l[i] _ _ (Kd.V_reads' (Kd.V_below HT.out (by repeat (first | (with_reducible first | exact HB.out | apply below_alloc | apply pw_below_drewN | apply below_drew1) | exact HB.out)))).2.2 (Kd.C_below HX.out.2 (by repeat (first | (with_reducible first | exact HB.out | apply below_alloc | apply pw_below_drewN | apply below_drew1) | exact HB.out))) HX.out.1 (by omega) (HIn.out.all _ (List.getElem_mem _)) HBv.out).mono ?_; rintro e w3 ⟨rfl, hb⟩; have n_ := Aside0.mk (below_step (by repeat (first | (with_reducible first | exact HB.out | apply below_alloc | apply pw_below_drewN | apply below_drew1) | exact HB.out)) hb); clear HB; have HB := n_; clear n_; have n_ := Aside0.mk (below_step (by repeat (first | (with_reducible first | exact HB2.out | apply below_alloc | apply pw_below_drewN | apply below_drew1) | exact HB2.out)) hb); clear HB2; have HB2 := n_; clear n_; clear hb)
              refine hK.out _ _ ?hst_25_0 (fun hHeld => ?ret_25_0)
              case hst_25_0 => (first | exact hxr | exact cell_below (by repeat (first | (with_reducible first | exact HB.out | apply below_alloc | apply pw_below_drewN | apply below_drew1) | exact HB.out)) HXC.out | go_keep)
              clear hK K
              try simp only [Act.put, List.setIfInBounds_toArray, List.set_cons_zero, List.set_cons_succ]
              refine wpAnyH_ready (rs := [11]) (by kernel_rfl) (by simp) ?rdt_26
              refine (AllReadyH.cons (o := { dst := some 57, op := Go.Op.call { callee := Go.Callee.value (Go.Operand.func 61), args := #[Go.Operand.tmp 52, Go.Operand.tmp 56], argTypes := #[23, 23] }, type := 4, pos := "law.go:30", after := #[{ on := 6, ground := Go.Ground.data }, { on := 10, ground := Go.Ground.data }, { on := 5, ground := Go.Ground.chain }], guard := none }) rfl (fun K hK => ?stt_26_0) AllReadyH.nil)
              case stt_26_0 =>
                (go_simp; go_at_call 61; refine (rcon_b A1 c1 tx A3 c3 l[i] _ _ (Kd.V_reads' (Kd.V_below HT.out (by repeat (first | (with_reducible first | exact HB.out | apply below_alloc | apply pw_below_drewN | apply below_drew1) | exact HB.out)))).2.2 (Kd.V_reads' HT.out).2.1 (Kd.C_below HX.out.2 (by repeat (first | (with_reducible first | exact HB.out | apply below_alloc | apply pw_below_drewN | apply below_drew1) | exact HB.out))) HX.out.1 (by omega) (HIn.out.all _ (List.getElem_mem _)) HBv.out).mono ?_; rintro e w3 ⟨rfl, ⟨nd, rfl⟩⟩)
                refine hK.out _ _ ?hst_26_0 (fun hHeld => ?ret_26_0)
                case hst_26_0 => (first | exact hxr | exact cell_below (by repeat (first | (with_reducible first | exact HB.out | apply below_alloc | apply pw_below_drewN | apply below_drew1) | exact HB.out)) HXC.out | go_keep)
                clear hK K
                try simp only [Act.put, List.setIfInBounds_toArray, List.set_cons_zero, List.set_cons_succ]
                refine wpAnyH_take (i := 12) (oi := { dst := some 58, op := Go.Op.binOp Go.BinOp.neq 4 (Go.Operand.tmp 51) (Go.Operand.tmp 57) 4, type := 4, pos := "law.go:30", after := #[{ on := 5, ground := Go.Ground.data }, { on := 11, ground := Go.Ground.data }], guard := none }) (v := ?vt_27) rfl (by kernel_rfl) (by kernel_rfl) (by kernel_rfl) (fun _ _ _ h => h) (Or.inl ⟨by rfl, ?hyt_27⟩) (by assumption) ?ret_27
                case hyt_27 => (intro w hSw; (try dsimp only at hSw); go_simp; try with_reducible rfl)
                try simp only [Act.put, List.setIfInBounds_toArray, List.set_cons_zero, List.set_cons_succ]
                refine wpAnyH_done (by kernel_rfl) ?dnt_28 _
                go_wp2_with fail
                exact ⟨⟨i + 1, by go_num, by omega, (by repeat (first | (with_reducible first | exact HB2.out | apply below_alloc | apply pw_below_drewN | apply below_drew1) | exact HB2.out))⟩, by simp only [intOf]; omega⟩

        · have il : ¬ ((i : Int) < (l.length : Int)) := by omega
          have hFl : (findD l tx 0 tx.length).length ≤ 1000000 := by
            have h1 := findD_len l tx tx.length 0
            have h2 : l.length * tx.length ≤ 20 * 100 := Nat.mul_le_mul HIn.out.len (by omega)
            omega
          have HFl := Aside0.mk hFl
          clear hFl
          go_wp2_with (first | (go_at_call 51; go_loud (refine (mfind_n (HM.out.below (by repeat (first | (with_reducible first | exact HB2.out | apply below_alloc | apply pw_below_drewN | apply below_drew1) | exact HB2.out))) HIn.out HEm.out A1 tx.length c1 tx _ rfl rfl (Kd.V_reads' (Kd.V_below HT.out (by repeat (first | (with_reducible first | exact HB.out | apply below_alloc | apply pw_below_drewN | apply below_drew1) | exact HB.out)))).2.2 (by omega)).mono ?_); rintro e w5 ⟨A5, c5, rfl, hc5, hC5, hb⟩; have H5 := Aside0.mk (And.intro hc5 hC5); have n_ := Aside0.mk (below_step (by repeat (first | (with_reducible first | exact HB.out | apply below_alloc | apply pw_below_drewN | apply below_drew1) | exact HB.out)) hb); clear HB; have HB := n_; clear n_; have n_ := Aside0.mk (below_step (by repeat (first | (with_reducible first | exact HB2.out | apply below_alloc | apply pw_below_drewN | apply below_drew1) | exact HB2.out)) hb); clear HB2; have HB2 := n_; clear n_; clear hb hc5 hC5) | (go_at_call 58; go_loud (refine (paronymref24_Find.calls 6000000 A c l A1 c1 tx _ _ (Kd.V_reads' (Kd.V_below HV.out (by repeat (first | (with_reducible first | exact HB.out | apply below_alloc | apply pw_below_drewN | apply below_drew1) | exact HB.out)))).2.2 (Kd.V_reads' HV.out).2.1 (Kd.V_reads' (Kd.V_below HT.out (by repeat (first | (with_reducible first | exact HB.out | apply below_alloc | apply pw_below_drewN | apply below_drew1) | exact HB.out)))).2.2 (Kd.V_reads' HT.out).2.1 (rfind_f HIn.out.bnd.1 (by omega) (by omega))).mono ?_); rintro e w6 ⟨v6, rfl, hR, hb⟩; obtain ⟨A6, c6, rfl, hc6, hC6⟩ := Kd.R_reads hR; have n_ := Aside0.mk (And.intro H5.out.1 (And.intro (Kd.C_below H5.out.2 hb) (And.intro hc6 hC6))); clear H5; have H5 := n_; clear n_; have n_ := Aside0.mk (below_step (by repeat (first | (with_reducible first | exact HB.out | apply below_alloc | apply pw_below_drewN | apply below_drew1) | exact HB.out)) hb); clear HB; have HB := n_; clear n_; have n_ := Aside0.mk (below_step (by repeat (first | (with_reducible first | exact HB2.out | apply below_alloc | apply pw_below_drewN | apply below_drew1) | exact HB2.out)) hb); clear HB2; have HB2 := n_; clear n_; clear hb hR hc6 hC6) | (go_at_call 57; go_loud (refine (same_self A5 _ c5 A6 _ c6 (findD l tx 0 tx.length) _ rfl rfl H5.out.2.1 H5.out.1 H5.out.2.2.2 H5.out.2.2.1 HFl.out).mono ?_); rintro e w7 ⟨rfl, ⟨nd, rfl⟩⟩) | (go_at_call 54; refine (read_calls (HM.out.below (by repeat (first | (with_reducible first | exact HB2.out | apply below_alloc | apply pw_below_drewN | apply below_drew1) | exact HB2.out)))).mono ?_; rintro e w8 ⟨rfl, rfl⟩) | (go_at_call 60; go_loud (refine (mcontains_calls A1 c1 tx none 0 [] _ (Kd.V_reads' (Kd.V_below HT.out (by repeat (first | (with_reducible first | exact HB.out | apply below_alloc | apply pw_below_drewN | apply below_drew1) | exact HB.out)))).2.2 (Kd.C_nil (Kd.int .i64) _) (Nat.le_refl _) (by omega) (by simp)).mono ?_); rw [con_nil]; rintro e w9 ⟨rfl, hb⟩; have n_ := Aside0.mk (below_step (by repeat (first | (with_reducible first | exact HB.out | apply below_alloc | apply pw_below_drewN | apply below_drew1) | exact HB.out)) hb); clear HB; have HB := n_; clear n_; clear hb))
          go_ret
          exact ⟨by first | rfl | simp, (by repeat (first | (with_reducible first | exact HB.out | apply below_alloc | apply pw_below_drewN | apply below_drew1) | exact HB.out))⟩
end Go.Proofs.Ytgfmplhpoblleaa.FailW
