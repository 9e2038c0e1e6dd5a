/- The statement MatchJoins, walked. -/
import Derived.Test.YtgfmplhpoblleaaMWk
namespace Go.Proofs.Ytgfmplhpoblleaa.FailW
open Go.RowKit Go.Shelf Go.Lib Go.Proofs Go.Proofs.YtgfmplhpoblleaaW.PrintWords Go.Proofs.YtgfmplhpoblleaaW.PrintLast Go.Proofs.YtgfmplhpoblleaaW.PrintMore Go.Proofs.Ytgfmplhpoblleaa.PRank Go.Proofs.Ytgfmplhpoblleaa.PFB Go.Proofs.Ytgfmplhpoblleaa.RankW Go.Proofs.Ytgfmplhpoblleaa.SortOwn Go.Proofs.Ytgfmplhpoblleaa
open Go.Proofs.Ytgfmplhpoblleaa.Cmps hiding dedup
set_option linter.unusedVariables false
set_option linter.unusedSimpArgs false

attribute [local go_sem high] eqA71
theorem add_add (a : Addr) (m n : Nat) : (a.add m).add n = a.add (m + n) := by
  unfold Addr.add
  by_cases h1 : m = 0
  · by_cases h2 : n = 0 <;> simp [h1, h2]
  · by_cases h2 : n = 0
    · simp [h1, h2]
    · simp [h1, h2, Nat.add_assoc]
theorem C71_tail {w : World} {ad : Addr} {n : Nat} {x : S71} {r : List S71} (h : Kd.C k71 w (some ad) (n + 1) (x :: r)) : Kd.C k71 w (some (ad.add 2)) n r := by
  obtain ⟨h1, h2, h3⟩ := h
  refine ⟨by simpa using h1, by omega, fun hn => ?_⟩
  obtain ⟨ad', e, h4⟩ := h3 (by omega)
  obtain rfl := Option.some.inj e
  refine ⟨ad.add 2, rfl, fun j p hj => ?_⟩
  obtain ⟨cs, e1, e2, e3⟩ := h4 (j + 1) p (by simpa using hj)
  refine ⟨cs, e1, e2, fun i u hu => ?_⟩
  have := e3 i u hu
  rw [add_add]
  have e4 : 2 + (j * k71.sz + i) = (j + 1) * k71.sz + i := by
    have : k71.sz = 2 := rfl
    rw [this]; omega
  rw [e4]
  exact this
theorem C71_cut {w : World} {ad : Addr} {n c : Nat} {x : S71} {r : List S71} (h : Kd.C k71 w (some ad) (n + 1) (x :: r)) (hc : n + 1 ≤ c) : Kd.C k71 w (if c = 1 then some ad else some (ad.add 2)) n r := by
  by_cases hc1 : c = 1
  · rw [if_pos hc1]
    have hn : n = 0 := by omega
    subst hn
    have h1 := h.1
    have hr : r = [] := List.length_eq_zero_iff.1 (by simpa using h1)
    subst hr
    exact ⟨rfl, by omega, fun h => by omega⟩
  · rw [if_neg hc1]
    exact C71_tail h
theorem findD_len (l : List (List Int)) (t : List Int) : ∀ (d a : Nat), (findD l t a d).length ≤ l.length * d
  | 0, a => by simp [findD]
  | d + 1, a => by
    have h1 := findD_len l t d (a + 1)
    have h2 := plcT_len t a l 0
    rw [findD, List.length_append, Nat.mul_succ]
    omega
def nJ (l : List (List Int)) (m : Nat) (F : List S71) (i : Nat) : Nat := ((F.take i).filter (inA l m)).length
def yJ (m : Nat) (F : List S71) (i : Nat) : List S71 := ((F.drop i).filter (inB m)).map (shB m)
theorem cut_from9 {P : Program} (t e : TypeId) (kl : IntKind) {i : TypeInfo} (ht : P.underlying t = some (.slice e)) (hi : P.info? e = some i) (size : Nat) (hsz : i.size = size) (A : Option Addr) (n c : Nat) (j : Int) (h0 : 0 ≤ j) (hm : j ≤ n) :
    ∀ W : World, (Instr.slice t (.slice A n c) (some (.int kl j)) none none).run P W = .ok (.slice (if c = j.toNat then A else A.map (·.add (j.toNat * size))) (n - j.toNat) (c - j.toNat)) W := by
  intro W
  have hel : P.elem t = e := by simp [Program.elem, ht]
  have hu : P.underlying t = some (.slice (P.elem t)) := by rw [hel]; exact ht
  rw [run_slice_l W t A n c hu kl j h0 hm, hel]
  simp [sizeOf, typeInfo, hi, hsz, sliced, Result.andThen]
theorem set_far {w : World} {a : Addr} {b m : Nat} {u v : Value} (hne : a.block ≠ b) (h : w.cell? a = some v) : (w.setCell ⟨b, m, none⟩ u).drew.cell? a = some v := (World.cell?_of_block (Go.RowKit.Below.heap_setCell w ⟨b, m, none⟩ u a.block hne)).trans h
theorem set_keep0 {w : World} {b : Nat} {u v x : Value} (h : w.cell? ⟨b, 0, none⟩ = some v) (h1 : w.cell? ⟨b, 1, none⟩ = some x) : (w.setCell ⟨b, 1, none⟩ u).drew.cell? ⟨b, 0, none⟩ = some v := by
  show (w.setCell ⟨b, 1, none⟩ u).cell? ⟨b, 0, none⟩ = some v
  go_simp
theorem set_keep1 {w : World} {b : Nat} {u x : Value} (h1 : w.cell? ⟨b, 1, none⟩ = some x) : (w.setCell ⟨b, 1, none⟩ u).drew.cell? ⟨b, 1, none⟩ = some u := by
  show (w.setCell ⟨b, 1, none⟩ u).cell? ⟨b, 1, none⟩ = some u
  go_simp
theorem own_empty {w : World} {b base : Nat} (h : w.heap[b]? = some (.cells #[] 3 (0, 0))) (hb : base ≤ b) : w.ownsRow base 3 1 (.slice (some ⟨b, 0, none⟩) 0 0) ([] : List Int).length (encs (fun x => Value.int .i64 x) []) := by
  refine ⟨rfl, .inr ⟨b, 0, #[], rfl, hb, h, Nat.le_refl _, by unfold maxLen; omega, rfl, rfl⟩⟩
set_option maxHeartbeats 8000000 in
set_option maxRecDepth 100000 in
theorem joins24_calls (A : Option Addr) (c : Nat) (l : List (List Int)) (A1 : Option Addr) (c1 : Nat) (ta : List Int) (A2 : Option Addr) (c2 : Nat) (tb : List Int) (w : World) (hV : Kd.V (Kd.slice 3 (Kd.int .i64)) 23 w w.heap.size (fun _ => True) (.slice A l.length c) l) (hTA : Kd.V (Kd.int .i64) 3 w w.heap.size (fun _ => True) (.slice A1 ta.length c1) ta) (hTB : Kd.V (Kd.int .i64) 3 w w.heap.size (fun _ => True) (.slice A2 tb.length c2) tb) :
    Calls Try.prog 12 #[.slice A l.length c, .slice A1 ta.length c1, .slice A2 tb.length c2] w fun e w' => e = .returned (.bool true) ∧ Go.RowKit.Below w.heap.size w w' := by
  have HV := Aside0.mk hV
  have HTA := Aside0.mk hTA
  have HTB := Aside0.mk hTB
  have HB := Aside0.mk (Go.RowKit.Below.refl w.heap.size w)
  clear hV hTA hTB
  obtain ⟨b, hb, hbx⟩ := small_f l 10 (by omega) 6000000 (by omega)
  have HS := Aside0.mk hb
  clear hb
  cases b with
  | false =>
    clear hbx
    go_enter Try.func12, Try.ntmps12
    go_wp2_with (first | (go_at_call 49; refine (awake24_calls _).mono ?_; rintro e w2 ⟨rfl, hb2⟩; have n_ := Aside0.mk (below_step (by repeat (first | (with_reducible first | exact HB.out | apply below_alloc | apply pw_below_drewN | apply below_drew1) | exact HB.out)) hb2); clear HB; have HB := n_; clear n_; clear hb2) | (go_at_call 34; refine (paronymref22_Small.calls 6000000 A c l 10 false _ (Kd.V_reads' (Kd.V_below HV.out (by repeat (first | (with_reducible first | exact HB.out | apply below_alloc | apply pw_below_drewN | apply below_drew1) | exact HB.out)))).2.2 (Kd.V_reads' HV.out).2.1 HS.out).mono ?_; rintro e w3 ⟨rfl, ⟨nd, rfl⟩⟩))
    go_ret
    exact ⟨rfl, (by repeat (first | (with_reducible first | exact HB.out | apply below_alloc | apply pw_below_drewN | apply below_drew1) | exact HB.out))⟩
  | true =>
    have hIn : In 20 l := In.mono ⟨(hbx rfl).1, (hbx rfl).2⟩ (by omega)
    have HIn := Aside0.mk hIn
    have he := empty_f l (by have := hIn.len; omega) 6000000 (by omega)
    clear hbx hIn
    obtain ⟨b, hb⟩ : ∃ b, l.any (·.isEmpty) = b := ⟨_, rfl⟩
    rw [hb] at he
    have HE := Aside0.mk he
    have HEm := Aside0.mk hb
    clear he hb
    cases b with
    | true =>
      go_enter Try.func12, Try.ntmps12
      go_wp2_with (first | (go_at_call 49; refine (awake24_calls _).mono ?_; rintro e w2 ⟨rfl, hb2⟩; have n_ := Aside0.mk (below_step (by repeat (first | (with_reducible first | exact HB.out | apply below_alloc | apply pw_below_drewN | apply below_drew1) | exact HB.out)) hb2); clear HB; have HB := n_; clear n_; clear hb2) | (go_at_call 34; refine (paronymref22_Small.calls 6000000 A c l 10 true _ (Kd.V_reads' (Kd.V_below HV.out (by repeat (first | (with_reducible first | exact HB.out | apply below_alloc | apply pw_below_drewN | apply below_drew1) | exact HB.out)))).2.2 (Kd.V_reads' HV.out).2.1 HS.out).mono ?_; rintro e w3 ⟨rfl, ⟨nd, rfl⟩⟩) | (go_at_call 35; refine (paronymref22_Empty.calls 6000000 A c l true _ (Kd.V_reads' (Kd.V_below HV.out (by repeat (first | (with_reducible first | exact HB.out | apply below_alloc | apply pw_below_drewN | apply below_drew1) | exact HB.out)))).2.2 (Kd.V_reads' HV.out).2.1 HE.out).mono ?_; rintro e w3 ⟨rfl, ⟨nd, rfl⟩⟩))
      go_ret
      exact ⟨rfl, (by repeat (first | (with_reducible first | exact HB.out | apply below_alloc | apply pw_below_drewN | apply below_drew1) | exact HB.out))⟩
    | false =>
      by_cases hx : ta.length > 40
      · have hx1 : decide (40 < (ta.length : Int)) = true := decide_eq_true (by omega)
        go_enter Try.func12, Try.ntmps12
        go_wp2_with (first | (go_at_call 49; refine (awake24_calls _).mono ?_; rintro e w2 ⟨rfl, hb2⟩; have n_ := Aside0.mk (below_step (by repeat (first | (with_reducible first | exact HB.out | apply below_alloc | apply pw_below_drewN | apply below_drew1) | exact HB.out)) hb2); clear HB; have HB := n_; clear n_; clear hb2) | (go_at_call 34; refine (paronymref22_Small.calls 6000000 A c l 10 true _ (Kd.V_reads' (Kd.V_below HV.out (by repeat (first | (with_reducible first | exact HB.out | apply below_alloc | apply pw_below_drewN | apply below_drew1) | exact HB.out)))).2.2 (Kd.V_reads' HV.out).2.1 HS.out).mono ?_; rintro e w3 ⟨rfl, ⟨nd, rfl⟩⟩) | (go_at_call 35; refine (paronymref22_Empty.calls 6000000 A c l false _ (Kd.V_reads' (Kd.V_below HV.out (by repeat (first | (with_reducible first | exact HB.out | apply below_alloc | apply pw_below_drewN | apply below_drew1) | exact HB.out)))).2.2 (Kd.V_reads' HV.out).2.1 HE.out).mono ?_; rintro e w3 ⟨rfl, ⟨nd, rfl⟩⟩))
        go_ret
        exact ⟨rfl, (by repeat (first | (with_reducible first | exact HB.out | apply below_alloc | apply pw_below_drewN | apply below_drew1) | exact HB.out))⟩
      have hx1 : decide (40 < (ta.length : Int)) = false := decide_eq_false (by omega)
      by_cases hy : tb.length > 40
      · have hy1 : decide (40 < (tb.length : Int)) = true := decide_eq_true (by omega)
        go_enter Try.func12, Try.ntmps12
        go_wp2_with (first | (go_at_call 49; refine (awake24_calls _).mono ?_; rintro e w2 ⟨rfl, hb2⟩; have n_ := Aside0.mk (below_step (by repeat (first | (with_reducible first | exact HB.out | apply below_alloc | apply pw_below_drewN | apply below_drew1) | exact HB.out)) hb2); clear HB; have HB := n_; clear n_; clear hb2) | (go_at_call 34; refine (paronymref22_Small.calls 6000000 A c l 10 true _ (Kd.V_reads' (Kd.V_below HV.out (by repeat (first | (with_reducible first | exact HB.out | apply below_alloc | apply pw_below_drewN | apply below_drew1) | exact HB.out)))).2.2 (Kd.V_reads' HV.out).2.1 HS.out).mono ?_; rintro e w3 ⟨rfl, ⟨nd, rfl⟩⟩) | (go_at_call 35; refine (paronymref22_Empty.calls 6000000 A c l false _ (Kd.V_reads' (Kd.V_below HV.out (by repeat (first | (with_reducible first | exact HB.out | apply below_alloc | apply pw_below_drewN | apply below_drew1) | exact HB.out)))).2.2 (Kd.V_reads' HV.out).2.1 HE.out).mono ?_; rintro e w3 ⟨rfl, ⟨nd, rfl⟩⟩))
        go_ret
        exact ⟨rfl, (by repeat (first | (with_reducible first | exact HB.out | apply below_alloc | apply pw_below_drewN | apply below_drew1) | exact HB.out))⟩
      have hy1 : decide (40 < (tb.length : Int)) = false := decide_eq_false (by omega)
      go_enter Try.func12, Try.ntmps12
      go_wp2_with (first | (go_at_call 49; refine (awake24_calls _).mono ?_; rintro e w2 ⟨rfl, hb2⟩; have n_ := Aside0.mk (below_step (by repeat (first | (with_reducible first | exact HB.out | apply below_alloc | apply pw_below_drewN | apply below_drew1) | exact HB.out)) hb2); clear HB; have HB := n_; clear n_; clear hb2) | (go_at_call 34; refine (paronymref22_Small.calls 6000000 A c l 10 true _ (Kd.V_reads' (Kd.V_below HV.out (by repeat (first | (with_reducible first | exact HB.out | apply below_alloc | apply pw_below_drewN | apply below_drew1) | exact HB.out)))).2.2 (Kd.V_reads' HV.out).2.1 HS.out).mono ?_; rintro e w3 ⟨rfl, ⟨nd, rfl⟩⟩) | (go_at_call 35; refine (paronymref22_Empty.calls 6000000 A c l false _ (Kd.V_reads' (Kd.V_below HV.out (by repeat (first | (with_reducible first | exact HB.out | apply below_alloc | apply pw_below_drewN | apply below_drew1) | exact HB.out)))).2.2 (Kd.V_reads' HV.out).2.1 HE.out).mono ?_; rintro e w3 ⟨rfl, ⟨nd, rfl⟩⟩) | (go_at_call 50; go_loud (refine (mnew_n A l.length c l _ rfl (Kd.V_reads' (Kd.V_below HV.out (by repeat (first | (with_reducible first | exact HB.out | apply below_alloc | apply pw_below_drewN | apply below_drew1) | exact HB.out)))).2.2 HIn.out HEm.out).mono ?_); rintro e w4 ⟨w0, g, rfl, ⟨s, pp, t, vl, hM⟩, hb, hz⟩; have HZ0 := Aside0.mk (show w.heap.size ≤ w0.heap.size from Nat.le_trans (below_size (by repeat (first | (with_reducible first | exact HB.out | apply below_alloc | apply pw_below_drewN | apply below_drew1) | exact HB.out))) hz); have HM := Aside0.mk hM; have HB2 := Aside0.mk (Go.RowKit.Below.refl w4.heap.size w4); have n_ := Aside0.mk (below_step (by repeat (first | (with_reducible first | exact HB.out | apply below_alloc | apply pw_below_drewN | apply below_drew1) | exact HB.out)) hb); clear HB; have HB := n_; clear n_; clear hM hb hz) | (at_builtin; refine Aside0.out ?_))
      refine Aside0.mk ?_
      have hz4 := HB.out.size
      refine print_append_row_of (fun x => Value.int .i64 x) 0 (w0 := w4) w4.heap.size rfl (.tmp 46) (.tmp 47) 23 3 (.int .i64 0) 8 rfl Try.underlying23 info3 rfl (by omega) (fun _ => rfl) (.slice (some ⟨w4.heap.size, 0, none⟩) 0 0) [] ta A1 ta.length c1 rfl rfl (own_empty (heap_alloc_new _ _) (Nat.le_refl _)) (Kd.reads_of_C (Kd.V_reads' (Kd.V_below HTA.out (by repeat (first | (with_reducible first | exact HB.out | apply below_alloc | apply pw_below_drewN | apply below_drew1) | exact HB.out)))).2.2) ((Grows.refl w4).alloc _).below (by simp) (by simp; omega) ?_
      intro v1 w5 ho5 hb5 hg5 hat5
      rw [List.nil_append] at ho5
      have HO5 := Aside0.mk (And.intro ho5 hb5)
      have n_ := Aside0.mk (HB.out.trans (hb5.mono HB.out.size))
      clear HB
      have HB := n_
      have HZ4 := Aside0.mk hz4
      clear n_ ho5 hb5 hg5 hat5 hz4
      go_wp2_with (at_builtin; refine Aside0.out ?_)
      refine Aside0.mk ?_
      refine print_append_row_of (fun x => Value.int .i64 x) 0 (w0 := w4) w4.heap.size rfl (.tmp 48) (.tmp 49) 23 3 (.int .i64 0) 8 rfl Try.underlying23 info3 rfl (by omega) (fun _ => rfl) v1 ta tb A2 tb.length c2 rfl rfl HO5.out.1 (Kd.reads_of_C (Kd.V_reads' (Kd.V_below HTB.out (by repeat (first | (with_reducible first | exact HB.out | apply below_alloc | apply pw_below_drewN | apply below_drew1) | exact HB.out)))).2.2) HO5.out.2 HO5.out.2.size (by omega) ?_
      intro v2 w6 ho6 hb6 hg6 hat6
      obtain ⟨tc, htc⟩ : ∃ tc, tc = ta ++ tb := ⟨_, rfl⟩
      rw [← htc] at ho6
      have r6 : Kd.R (Kd.int .i64) 3 w6 w4.heap.size (fun _ => True) v2 tc := Kd.R_of_own ho6 (fun _ _ => trivial)
      obtain ⟨A6, c6, rfl, hl6, hC6⟩ := Kd.R_reads r6
      have n_ := Aside0.mk (HB.out.trans (Go.RowKit.Below.mono (below_between HO5.out.2 hb6 (by have := hg6.size; omega)) HZ4.out))
      clear HB
      have HB := n_
      clear n_
      have HB2 := Aside0.mk hb6
      have tcl : tc.length = ta.length + tb.length := by rw [htc, List.length_append]
      have HT6 := Aside0.mk (And.intro hC6 (And.intro htc tcl))
      have htcl : tc.length ≤ 80 := by omega
      obtain ⟨X, hX⟩ : ∃ X, findD l ta 0 ta.length = X := ⟨_, rfl⟩
      obtain ⟨Y, hY⟩ : ∃ Y, findD l tb 0 tb.length = Y := ⟨_, rfl⟩
      obtain ⟨F, hF⟩ : ∃ F, findD l tc 0 tc.length = F := ⟨_, rfl⟩
      have hne : ∀ p ∈ l, p ≠ [] := fun q hq e => by
        have := List.any_eq_false.1 HEm.out q hq
        rw [e] at this
        simp at this
      have hJL := join_left l hne ta tb
      have hJR := join_right l ta tb
      rw [← htc, hF] at hJL hJR
      rw [hX] at hJL
      rw [hY] at hJR
      have hFb : F.length ≤ 1600 := by
        have h1 := findD_len l tc tc.length 0
        have h2 : l.length * tc.length ≤ 20 * 80 := Nat.mul_le_mul HIn.out.len htcl
        rw [← hF]; omega
      have HXe := Aside0.mk hX
      have HYe := Aside0.mk hY
      have HFe := Aside0.mk (And.intro hF (And.intro hJL hJR))
      clear ho6 hb6 hg6 hat6 r6 hl6 hC6 htc tcl hX hY hF hne hJL hJR
      go_wp2_with (first | (go_at_call 51; have _ := H7; go_loud (refine (mfind_n (HM.out.below (by repeat (first | (with_reducible first | exact HB2.out | apply below_alloc | apply pw_below_drewN | apply below_drew1) | exact HB2.out))) HIn.out HEm.out A2 tb.length c2 tb Y rfl HYe.out (Kd.V_reads' (Kd.V_below HTB.out (by repeat (first | (with_reducible first | exact HB.out | apply below_alloc | apply pw_below_drewN | apply below_drew1) | exact HB.out)))).2.2 (by omega)).mono ?_); rintro e w8 ⟨A8, c8, rfl, hc8, hC8, hb⟩; have H8 := Aside0.mk (And.intro hc8 hC8); have n_ := Aside0.mk (below_step (by repeat (first | (with_reducible first | exact HB.out | apply below_alloc | apply pw_below_drewN | apply below_drew1) | exact HB.out)) hb); clear HB; have HB := n_; clear n_; have n_ := Aside0.mk (below_step (by repeat (first | (with_reducible first | exact HB2.out | apply below_alloc | apply pw_below_drewN | apply below_drew1) | exact HB2.out)) hb); clear HB2; have HB2 := n_; clear n_; have n_ := Aside0.mk (below_step (by repeat (first | (with_reducible first | exact HB6.out | apply below_alloc | apply pw_below_drewN | apply below_drew1) | exact HB6.out)) hb); clear HB6; have HB6 := n_; clear n_; have n_ := Aside0.mk (below_step (by repeat (first | (with_reducible first | exact HB7.out | apply below_alloc | apply pw_below_drewN | apply below_drew1) | exact HB7.out)) hb); clear HB7; have HB7 := n_; clear n_; clear hb hc8 hC8) | (go_at_call 51; have _ := H9; go_loud (refine (mfind_n (HM.out.below (by repeat (first | (with_reducible first | exact HB2.out | apply below_alloc | apply pw_below_drewN | apply below_drew1) | exact HB2.out))) HIn.out HEm.out A1 ta.length c1 ta X rfl HXe.out (Kd.V_reads' (Kd.V_below HTA.out (by repeat (first | (with_reducible first | exact HB.out | apply below_alloc | apply pw_below_drewN | apply below_drew1) | exact HB.out)))).2.2 (by omega)).mono ?_); rintro e w7 ⟨A7, c7, rfl, hc7, hC7, hb⟩; have H7 := Aside0.mk (And.intro hc7 hC7); have HB7 := Aside0.mk (Go.RowKit.Below.refl w7.heap.size w7); have n_ := Aside0.mk (below_step (by repeat (first | (with_reducible first | exact HB.out | apply below_alloc | apply pw_below_drewN | apply below_drew1) | exact HB.out)) hb); clear HB; have HB := n_; clear n_; have n_ := Aside0.mk (below_step (by repeat (first | (with_reducible first | exact HB2.out | apply below_alloc | apply pw_below_drewN | apply below_drew1) | exact HB2.out)) hb); clear HB2; have HB2 := n_; clear n_; have n_ := Aside0.mk (below_step (by repeat (first | (with_reducible first | exact HB6.out | apply below_alloc | apply pw_below_drewN | apply below_drew1) | exact HB6.out)) hb); clear HB6; have HB6 := n_; clear n_; clear hb hc7 hC7) | (go_at_call 51; go_loud (refine (mfind_n (HM.out.below (by repeat (first | (with_reducible first | exact HB2.out | apply below_alloc | apply pw_below_drewN | apply below_drew1) | exact HB2.out))) HIn.out HEm.out A6 tc.length c6 tc F rfl HFe.out.1 (Kd.C_below HT6.out.1 (Go.RowKit.Below.refl _ _)) (by omega)).mono ?_); rintro e w7 ⟨A9, c9, rfl, hc9, hC9, hb⟩; have H9 := Aside0.mk (And.intro hc9 hC9); have HB6 := Aside0.mk (Go.RowKit.Below.refl w7.heap.size w7); have n_ := Aside0.mk (below_step (by repeat (first | (with_reducible first | exact HB.out | apply below_alloc | apply pw_below_drewN | apply below_drew1) | exact HB.out)) hb); clear HB; have HB := n_; clear n_; have n_ := Aside0.mk (below_step (by repeat (first | (with_reducible first | exact HB2.out | apply below_alloc | apply pw_below_drewN | apply below_drew1) | exact HB2.out)) hb); clear HB2; have HB2 := n_; clear n_; clear hb hc9 hC9))
      obtain ⟨w9, hw9⟩ : ∃ w9, w9 = w8 := ⟨_, rfl⟩
      rw [← hw9]
      have HF9 := Aside0.mk (show Kd.C k71 w9 A9 F.length F by rw [hw9]; exact Kd.C_below H9.out.2 (by repeat (first | (with_reducible first | exact HB6.out | apply below_alloc | apply pw_below_drewN | apply below_drew1) | exact HB6.out)))
      have HX9 := Aside0.mk (show Kd.C k71 w9 A7 X.length X by rw [hw9]; exact Kd.C_below H7.out.2 (by repeat (first | (with_reducible first | exact HB7.out | apply below_alloc | apply pw_below_drewN | apply below_drew1) | exact HB7.out)))
      have HY9 := Aside0.mk (show Kd.C k71 w9 A8 Y.length Y by rw [hw9]; exact H8.out.2)
      have HBW := Aside0.mk (show Go.RowKit.Below w.heap.size w w9 by rw [hw9]; exact (by repeat (first | (with_reducible first | exact HB.out | apply below_alloc | apply pw_below_drewN | apply below_drew1) | exact HB.out)))
      clear hw9 HB HB2 HB6 HB7
      go_loopw [11, 12, 13] (fun yv nv iv wr => ∃ (i n : Nat) (ys : List S71) (Ay : Option Addr) (cy : Nat), iv = .int .i64 i ∧ i ≤ F.length ∧ nv = .int .i64 n ∧ n = nJ l ta.length F i ∧ yv = .slice Ay ys.length cy ∧ ys = yJ ta.length F i ∧ ys.length ≤ cy ∧ Kd.C k71 w9 Ay ys.length ys ∧ Go.RowKit.Below w9.heap.size w9 wr) (fun yv nv iv wr => F.length - (intOf iv).toNat)
      case atStart => exact ⟨0, 0, Y, A8, c8, rfl, Nat.zero_le _, rfl, by unfold nJ; simp, rfl, by unfold yJ; rw [List.drop_zero]; exact HFe.out.2.2.symm, H8.out.1, HY9.out, Go.RowKit.Below.refl _ _⟩
      case round =>
        obtain ⟨i, n, ys, Ay, cy, rfl, hi, rfl, hn, rfl, hys, hlen, hC, hbr⟩ := hrel
        have HB9 := Aside0.mk hbr
        have HNJ := Aside0.mk hn
        have HYJ := Aside0.mk hys
        have HYC := Aside0.mk (And.intro hlen hC)
        have HB := Aside0.mk (HBW.out.trans (hbr.mono HBW.out.size))
        have hnn : n ≤ 1600 := by
          rw [hn]; unfold nJ
          have h1 := List.length_filter_le (inA l ta.length) (F.take i)
          rw [List.length_take] at h1
          omega
        clear hn hys hlen hC hbr
        by_cases hlt : i < F.length
        · have hm := (mem_findD l tc F[i] tc.length 0).1 (by rw [HFe.out.1]; exact List.getElem_mem hlt)
          obtain ⟨p, k, pat, hFi, -, hk2, hlp, -⟩ := hm
          have HFI := Aside0.mk hFi
          obtain ⟨hpl, hpe⟩ := List.getElem?_eq_some_iff.1 hlp
          have HGD := Aside0.mk (show l.getD (p : Int).toNat [] = l[p] by rw [Int.toNat_natCast, List.getD_eq_getElem?_getD, List.getElem?_eq_getElem hpl]; rfl)
          have hll := HIn.out.len
          have hpl20 : l[p].length ≤ 20 := HIn.out.all _ (List.getElem_mem hpl)
          obtain ⟨ad, A3, c3, rfl, hx3, hl3, hi3⟩ := kRows_at (Kd.V_reads' HV.out).2.2 p hpl
          have hx3r := cell_below HB.out hx3
          obtain ⟨adF, eF, f0, f1⟩ := hit_at HF9.out i hlt
          subst eF
          rw [hFi] at f0 f1
          replace f0 := cell_below HB9.out f0
          replace f1 := cell_below HB9.out f1
          have il : (i : Int) < (F.length : Int) := by omega
          have dp0 : decide ((p : Int) < 0) = false := decide_eq_false (by omega)
          have dp1 : decide ((l.length : Int) ≤ (p : Int)) = false := decide_eq_false (by omega)
          have dp2 : decide (l.length ≤ p) = false := decide_eq_false (by omega)
          have pl2 : (p : Int) < (l.length : Int) := by omega
          rw [Nat.zero_add] at hk2
          clear hx3 hl3 hi3 hFi hlp hpe
          by_cases hP : k + l[p].length ≤ ta.length
          · by_cases hQ : ta.length ≤ k
            ·
              have dP : decide ((k : Int) + (l[p].length : Int) ≤ (ta.length : Int)) = true := decide_eq_true (by omega)
              have dQ : decide ((ta.length : Int) ≤ (k : Int)) = true := decide_eq_true (by omega)
              have dQ2 : decide (ta.length ≤ k) = true := decide_eq_true (by omega)
              have hQi : (ta.length : Int) ≤ (k : Int) := by omega
              have hPi : (k : Int) + (l[p].length : Int) ≤ (ta.length : Int) := by omega
              obtain ⟨hnX, hxn⟩ := next_left HFe.out.2.1 hlt (show inA l ta.length F[i] = true by rw [HFI.out]; exact decide_eq_true (by show (k : Int) + (((l.getD (p : Int).toNat []).length : Nat) : Int) ≤ _; rw [HGD.out]; omega))
              rw [HFI.out] at hxn
              have hnX' : n < X.length := by rw [HNJ.out]; exact hnX
              obtain ⟨ad7, e7, x70, x71⟩ := hit_at HX9.out n hnX'
              subst e7
              have hxn' : X[n] = ⟨(p : Int), (k : Int)⟩ := by have e_ := HNJ.out; unfold nJ at e_; subst e_; exact hxn
              rw [hxn'] at x70 x71
              replace x70 := cell_below HB9.out x70
              replace x71 := cell_below HB9.out x71
              have hnX2 : (n : Int) < (X.length : Int) := by omega
              have dX : decide (X.length ≤ n) = false := decide_eq_false (by omega)
              have dX2 : decide ((X.length : Int) ≤ (n : Int)) = false := decide_eq_false (by omega)
              clear hnX hxn hxn'
              have hys : ys = ⟨(p : Int), (k : Int) - (ta.length : Int)⟩ :: yJ ta.length F (i + 1) := by rw [HYJ.out]; unfold yJ; rw [drop_step _ _ hlt, if_pos (show inB ta.length F[i] = true by rw [HFI.out]; exact decide_eq_true (by show (ta.length : Int) ≤ (k : Int); omega)), HFI.out]; rfl
              obtain ⟨ys', hys'⟩ : ∃ ys', ys' = yJ ta.length F (i + 1) := ⟨_, rfl⟩
              rw [← hys'] at hys
              have hyl : ys.length = ys'.length + 1 := by rw [hys]; rfl
              have hCy := HYC.out.2
              have hly := HYC.out.1
              rw [hyl] at hCy hly
              rw [hys] at hCy
              obtain ⟨ady, ey, y0, y1⟩ := hit_at (l := ⟨(p : Int), (k : Int) - (ta.length : Int)⟩ :: ys') hCy 0 (by simp)
              subst ey
              have ey0 : ady.add (0 * 2) = ady := by unfold Addr.add; simp
              rw [ey0] at y0 y1
              simp only [List.getElem_cons_zero] at y0 y1
              have HY3 := Aside0.mk y0
              replace y0 := cell_below HB9.out y0
              replace y1 := cell_below HB9.out y1
              have hCy' := C71_cut hCy hly
              obtain ⟨i71, hi71, hz71, hsz71, hby71⟩ := info_parts info71
              have hcut := cut_from9 (P := Try.prog) 68 71 .i64 Try.underlying68 hi71 2 hsz71 (some ady) (ys'.length + 1) cy 1 (by omega) (by omega)
              obtain ⟨Ay', hAy'⟩ : ∃ Ay', Ay' = (if cy = 1 then some ady else some (ady.add 2)) := ⟨_, rfl⟩
              rw [← hAy'] at hCy'
              have hcut2 : ∀ W : World, (Instr.slice 68 (.slice (some ady) (ys'.length + 1) cy) (some (.int .i64 1)) none none).run Try.prog W = .ok (.slice Ay' ys'.length (cy - 1)) W := by intro W; have h_ := hcut W; rw [hAy']; exact h_
              have hy1 : 0 < ys'.length + 1 := by omega
              have dY : ((((ys'.length + 1 : Nat) : Int)) == 0) = false := by simp; omega
              have dY2 : (((ys'.length : Int) + 1) == 0) = false := by simp; omega
              have HY2 := Aside0.mk (And.intro hCy' (And.intro hys' hly))
              rw [hyl]
              clear hcut hi71 hz71 hsz71 hby71 hAy' hCy' hys' hyl hCy hly hys i71
              go_wp2_with fail
              obtain ⟨W1, hW1⟩ : ∃ W1, W1 = wr.alloc (.cells #[.int .i64 (p : Int), .int .i64 (k : Int)] 71) := ⟨_, rfl⟩
              have hb1 : W1.heap[wr.heap.size]? = some (.cells #[.int .i64 (p : Int), .int .i64 (k : Int)] 71 (0, 0)) := by rw [hW1]; exact heap_alloc_new _ _
              have q0 : W1.cell? ⟨wr.heap.size, 0, none⟩ = some (.int .i64 (p : Int)) := (blk_cell hb1 0).trans rfl
              have q1 : W1.cell? ⟨wr.heap.size, 1, none⟩ = some (.int .i64 (k : Int)) := (blk_cell hb1 1).trans rfl
              have gw : Grows wr W1 := by rw [hW1]; exact (Grows.refl wr).alloc _
              have hx3 := cell_grows gw hx3r
              replace x70 := cell_grows gw x70
              replace x71 := cell_grows gw x71
              replace y0 := cell_grows gw y0
              replace y1 := cell_grows gw y1
              rw [← hW1]
              have HW1 := Aside0.mk (And.intro hb1 (HB9.out.trans (gw.below.mono HB9.out.size)))
              have zq := fun m => blk_frozen hb1 m
              have zq1 := zq 1
              clear zq
              clear hb1 gw hW1
              refine wp_region_held_drew (S := (fun w' => w'.cell? ⟨wr.heap.size, 0, none⟩ = some (.int .i64 (p : Int)) ∧ w'.cell? ⟨wr.heap.size, 1, none⟩ = some (.int .i64 (k : Int)) ∧ w'.cell? (ad.add p) = some (.slice A3 l[p].length c3))) (by kernel_rfl) ?s0Aa (fun hHeld => ?b0Aa)
              case s0Aa => (first | exact ⟨q0, q1, hx3⟩ | go_keep)
              refine wpAnyH_take (i := 0) (oi := { dst := some 78, op := Go.Op.fieldAddr 71 (Go.Operand.tmp 14) 1, type := 0, pos := "law.go:111", after := #[], guard := none }) (v := ?vAa_1) rfl (by kernel_rfl) (by kernel_rfl) (by kernel_rfl) (fun _ _ _ h => h) (Or.inl ⟨by rfl, ?hyAa_1⟩) (by assumption) ?reAa_1
              case hyAa_1 => (intro w hSw; (try dsimp only at hSw); go_simp; try with_reducible rfl)
              try simp only [Act.put, List.setIfInBounds_toArray, List.set_cons_zero, List.set_cons_succ]
              refine wpAnyH_take (i := 1) (oi := { dst := some 79, op := Go.Op.load 3 (Go.Operand.tmp 78), type := 3, pos := "law.go:111", after := #[{ on := 0, ground := Go.Ground.data }], guard := none }) (v := ?vAa_2) rfl (by kernel_rfl) (by kernel_rfl) (by kernel_rfl) (fun _ _ _ h => h) (Or.inl ⟨by rfl, ?hyAa_2⟩) (by assumption) ?reAa_2
              case hyAa_2 => (intro w hSw; (try dsimp only at hSw); go_simp; try with_reducible rfl)
              try simp only [Act.put, List.setIfInBounds_toArray, List.set_cons_zero, List.set_cons_succ]
              refine wpAnyH_take (i := 2) (oi := { dst := some 80, op := Go.Op.move (Go.Operand.tmp 0), type := 45, pos := "law.go:111", after := #[], guard := none }) (v := ?vAa_3) rfl (by kernel_rfl) (by kernel_rfl) (by kernel_rfl) (fun _ _ _ h => h) (Or.inl ⟨by rfl, ?hyAa_3⟩) (by assumption) ?reAa_3
              case hyAa_3 => (intro w hSw; (try dsimp only at hSw); go_simp; try with_reducible rfl)
              try simp only [Act.put, List.setIfInBounds_toArray, List.set_cons_zero, List.set_cons_succ]
              refine wpAnyH_take (i := 3) (oi := { dst := some 81, op := Go.Op.fieldAddr 71 (Go.Operand.tmp 14) 0, type := 0, pos := "law.go:111", after := #[], guard := none }) (v := ?vAa_4) rfl (by kernel_rfl) (by kernel_rfl) (by kernel_rfl) (fun _ _ _ h => h) (Or.inl ⟨by rfl, ?hyAa_4⟩) (by assumption) ?reAa_4
              case hyAa_4 => (intro w hSw; (try dsimp only at hSw); go_simp; try with_reducible rfl)
              try simp only [Act.put, List.setIfInBounds_toArray, List.set_cons_zero, List.set_cons_succ]
              refine wpAnyH_take (i := 4) (oi := { dst := some 82, op := Go.Op.load 3 (Go.Operand.tmp 81), type := 3, pos := "law.go:111", after := #[{ on := 3, ground := Go.Ground.data }], guard := none }) (v := ?vAa_5) rfl (by kernel_rfl) (by kernel_rfl) (by kernel_rfl) (fun _ _ _ h => h) (Or.inl ⟨by rfl, ?hyAa_5⟩) (by assumption) ?reAa_5
              case hyAa_5 => (intro w hSw; (try dsimp only at hSw); go_simp; try with_reducible rfl)
              try simp only [Act.put, List.setIfInBounds_toArray, List.set_cons_zero, List.set_cons_succ]
              refine wpAnyH_take (i := 5) (oi := { dst := some 83, op := Go.Op.indexAddr 45 (Go.Operand.tmp 80) (Go.Operand.tmp 82), type := 0, pos := "law.go:111", after := #[{ on := 2, ground := Go.Ground.data }, { on := 4, ground := Go.Ground.data }], guard := none }) (v := ?vAa_6) rfl (by kernel_rfl) (by kernel_rfl) (by kernel_rfl) (fun _ _ _ h => h) (Or.inl ⟨by rfl, ?hyAa_6⟩) (by assumption) ?reAa_6
              case hyAa_6 => (intro w hSw; (try dsimp only at hSw); go_simp; try with_reducible rfl)
              try simp only [Act.put, List.setIfInBounds_toArray, List.set_cons_zero, List.set_cons_succ]
              refine wpAnyH_take (i := 6) (oi := { dst := some 84, op := Go.Op.load 23 (Go.Operand.tmp 83), type := 23, pos := "law.go:111", after := #[{ on := 5, ground := Go.Ground.data }], guard := none }) (v := ?vAa_7) rfl (by kernel_rfl) (by kernel_rfl) (by kernel_rfl) (fun _ _ _ h => h) (Or.inl ⟨by rfl, ?hyAa_7⟩) (by assumption) ?reAa_7
              case hyAa_7 => (intro w hSw; (try dsimp only at hSw); go_simp; try with_reducible rfl)
              try simp only [Act.put, List.setIfInBounds_toArray, List.set_cons_zero, List.set_cons_succ]
              refine wpAnyH_take (i := 7) (oi := { dst := some 85, op := Go.Op.call { callee := Go.Callee.builtin Go.Builtin.len, args := #[Go.Operand.tmp 84], argTypes := #[23] }, type := 3, pos := "law.go:111", after := #[{ on := 6, ground := Go.Ground.data }], guard := none }) (v := ?vAa_8) rfl (by kernel_rfl) (by kernel_rfl) (by kernel_rfl) (fun _ _ _ h => h) (Or.inl ⟨by rfl, ?hyAa_8⟩) (by assumption) ?reAa_8
              case hyAa_8 => (intro w hSw; (try dsimp only at hSw); go_simp; try with_reducible rfl)
              try simp only [Act.put, List.setIfInBounds_toArray, List.set_cons_zero, List.set_cons_succ]
              refine wpAnyH_take (i := 8) (oi := { dst := some 86, op := Go.Op.binOp Go.BinOp.add 3 (Go.Operand.tmp 79) (Go.Operand.tmp 85) 3, type := 3, pos := "law.go:111", after := #[{ on := 1, ground := Go.Ground.data }, { on := 7, ground := Go.Ground.data }], guard := none }) (v := ?vAa_9) rfl (by kernel_rfl) (by kernel_rfl) (by kernel_rfl) (fun _ _ _ h => h) (Or.inl ⟨by rfl, ?hyAa_9⟩) (by assumption) ?reAa_9
              case hyAa_9 => (intro w hSw; (try dsimp only at hSw); go_simp; try with_reducible rfl)
              try simp only [Act.put, List.setIfInBounds_toArray, List.set_cons_zero, List.set_cons_succ]
              refine wpAnyH_take (i := 9) (oi := { dst := some 15, op := Go.Op.assign (Go.Operand.tmp 86), type := 3, pos := "law.go:111", after := #[{ on := 8, ground := Go.Ground.data }, { on := 0, ground := Go.Ground.phase }, { on := 1, ground := Go.Ground.phase }, { on := 2, ground := Go.Ground.phase }, { on := 3, ground := Go.Ground.phase }, { on := 4, ground := Go.Ground.phase }, { on := 5, ground := Go.Ground.phase }, { on := 6, ground := Go.Ground.phase }, { on := 7, ground := Go.Ground.phase }, { on := 8, ground := Go.Ground.phase }], guard := none }) (v := ?vAa_10) rfl (by kernel_rfl) (by kernel_rfl) (by kernel_rfl) (fun _ _ _ h => h) (Or.inl ⟨by rfl, ?hyAa_10⟩) (by assumption) ?reAa_10
              case hyAa_10 => (intro w hSw; (try dsimp only at hSw); go_simp; try with_reducible rfl)
              try simp only [Act.put, List.setIfInBounds_toArray, List.set_cons_zero, List.set_cons_succ]
              refine wpAnyH_done (by kernel_rfl) ?dnAa_11 _
              go_wp2_with fail
              refine wp_region_held_drew (S := (fun w' => w'.cell? ⟨wr.heap.size, 0, none⟩ = some (.int .i64 (p : Int)) ∧ w'.cell? ⟨wr.heap.size, 1, none⟩ = some (.int .i64 (k : Int)) ∧ w'.cell? (ad7.add (n * 2)) = some (.int .i64 (p : Int)) ∧ w'.cell? ⟨(ad7.add (n * 2)).block, (ad7.add (n * 2)).off + 1, none⟩ = some (.int .i64 (k : Int)))) (by kernel_rfl) ?s0Ab (fun hHeld => ?b0Ab)
              case s0Ab => (first | exact ⟨q0, q1, x70, x71⟩ | go_keep)
              refine wpAnyH_take (i := 0) (oi := { dst := some 91, op := Go.Op.move (Go.Operand.tmp 12), type := 3, pos := "law.go:113", after := #[], guard := none }) (v := ?vAb_12) rfl (by kernel_rfl) (by kernel_rfl) (by kernel_rfl) (fun _ _ _ h => h) (Or.inl ⟨by rfl, ?hyAb_12⟩) (by assumption) ?reAb_12
              case hyAb_12 => (intro w hSw; (try dsimp only at hSw); go_simp; try with_reducible rfl)
              try simp only [Act.put, List.setIfInBounds_toArray, List.set_cons_zero, List.set_cons_succ]
              refine wpAnyH_take (i := 1) (oi := { dst := some 92, op := Go.Op.move (Go.Operand.tmp 10), type := 68, pos := "law.go:113", after := #[], guard := none }) (v := ?vAb_13) rfl (by kernel_rfl) (by kernel_rfl) (by kernel_rfl) (fun _ _ _ h => h) (Or.inl ⟨by rfl, ?hyAb_13⟩) (by assumption) ?reAb_13
              case hyAb_13 => (intro w hSw; (try dsimp only at hSw); go_simp; try with_reducible rfl)
              try simp only [Act.put, List.setIfInBounds_toArray, List.set_cons_zero, List.set_cons_succ]
              refine wpAnyH_take (i := 2) (oi := { dst := some 93, op := Go.Op.call { callee := Go.Callee.builtin Go.Builtin.len, args := #[Go.Operand.tmp 92], argTypes := #[68] }, type := 3, pos := "law.go:113", after := #[{ on := 1, ground := Go.Ground.data }], guard := none }) (v := ?vAb_14) rfl (by kernel_rfl) (by kernel_rfl) (by kernel_rfl) (fun _ _ _ h => h) (Or.inl ⟨by rfl, ?hyAb_14⟩) (by assumption) ?reAb_14
              case hyAb_14 => (intro w hSw; (try dsimp only at hSw); go_simp; try with_reducible rfl)
              try simp only [Act.put, List.setIfInBounds_toArray, List.set_cons_zero, List.set_cons_succ]
              refine wpAnyH_take (i := 3) (oi := { dst := some 94, op := Go.Op.binOp Go.BinOp.geq 3 (Go.Operand.tmp 91) (Go.Operand.tmp 93) 3, type := 4, pos := "law.go:113", after := #[{ on := 0, ground := Go.Ground.data }, { on := 2, ground := Go.Ground.data }], guard := none }) (v := ?vAb_15) rfl (by kernel_rfl) (by kernel_rfl) (by kernel_rfl) (fun _ _ _ h => h) (Or.inl ⟨by rfl, ?hyAb_15⟩) (by assumption) ?reAb_15
              case hyAb_15 => (intro w hSw; (try dsimp only at hSw); go_simp; try with_reducible rfl)
              try simp only [Act.put, List.setIfInBounds_toArray, List.set_cons_zero, List.set_cons_succ]
              refine wpAnyH_take (i := 4) (oi := { dst := some 95, op := Go.Op.move (Go.Operand.tmp 94), type := 4, pos := "law.go:113", after := #[{ on := 3, ground := Go.Ground.data }], guard := none }) (v := ?vAb_16) rfl (by kernel_rfl) (by kernel_rfl) (by kernel_rfl) (fun _ _ _ h => h) (Or.inl ⟨by rfl, ?hyAb_16⟩) (by assumption) ?reAb_16
              case hyAb_16 => (intro w hSw; (try dsimp only at hSw); go_simp; try with_reducible rfl)
              try simp only [Act.put, List.setIfInBounds_toArray, List.set_cons_zero, List.set_cons_succ]
              refine wpAnyH_take (i := 5) (oi := { dst := some 96, op := Go.Op.move (Go.Operand.tmp 10), type := 68, pos := "law.go:113", after := #[{ on := 4, ground := Go.Ground.guard }], guard := some (4, false) }) (v := ?vAb_17) rfl (by kernel_rfl) (by kernel_rfl) (by kernel_rfl) (fun _ _ _ h => h) (Or.inl ⟨by rfl, ?hyAb_17⟩) (by assumption) ?reAb_17
              case hyAb_17 => (intro w hSw; (try dsimp only at hSw); go_simp; try with_reducible rfl)
              try simp only [Act.put, List.setIfInBounds_toArray, List.set_cons_zero, List.set_cons_succ]
              refine wpAnyH_take (i := 6) (oi := { dst := some 97, op := Go.Op.move (Go.Operand.tmp 12), type := 3, pos := "law.go:113", after := #[{ on := 4, ground := Go.Ground.guard }], guard := some (4, false) }) (v := ?vAb_18) rfl (by kernel_rfl) (by kernel_rfl) (by kernel_rfl) (fun _ _ _ h => h) (Or.inl ⟨by rfl, ?hyAb_18⟩) (by assumption) ?reAb_18
              case hyAb_18 => (intro w hSw; (try dsimp only at hSw); go_simp; try with_reducible rfl)
              try simp only [Act.put, List.setIfInBounds_toArray, List.set_cons_zero, List.set_cons_succ]
              refine wpAnyH_take (i := 7) (oi := { dst := some 98, op := Go.Op.indexAddr 68 (Go.Operand.tmp 96) (Go.Operand.tmp 97), type := 0, pos := "law.go:113", after := #[{ on := 5, ground := Go.Ground.data }, { on := 6, ground := Go.Ground.data }, { on := 4, ground := Go.Ground.guard }], guard := some (4, false) }) (v := ?vAb_19) rfl (by kernel_rfl) (by kernel_rfl) (by kernel_rfl) (fun _ _ _ h => h) (Or.inl ⟨by rfl, ?hyAb_19⟩) (by assumption) ?reAb_19
              case hyAb_19 => (intro w hSw; (try dsimp only at hSw); go_simp; try with_reducible rfl)
              try simp only [Act.put, List.setIfInBounds_toArray, List.set_cons_zero, List.set_cons_succ]
              refine wpAnyH_take (i := 8) (oi := { dst := some 99, op := Go.Op.load 71 (Go.Operand.tmp 98), type := 71, pos := "law.go:113", after := #[{ on := 7, ground := Go.Ground.data }, { on := 4, ground := Go.Ground.guard }], guard := some (4, false) }) (v := ?vAb_20) rfl (by kernel_rfl) (by kernel_rfl) (by kernel_rfl) (fun _ _ _ h => h) (Or.inl ⟨by rfl, ?hyAb_20⟩) (by assumption) ?reAb_20
              case hyAb_20 => (intro w hSw; (try dsimp only at hSw); go_simp; try with_reducible rfl)
              try simp only [Act.put, List.setIfInBounds_toArray, List.set_cons_zero, List.set_cons_succ]
              refine wpAnyH_take (i := 9) (oi := { dst := some 100, op := Go.Op.load 71 (Go.Operand.tmp 14), type := 71, pos := "law.go:113", after := #[{ on := 4, ground := Go.Ground.guard }], guard := some (4, false) }) (v := ?vAb_21) rfl (by kernel_rfl) (by kernel_rfl) (by kernel_rfl) (fun _ _ _ h => h) (Or.inl ⟨by rfl, ?hyAb_21⟩) (by assumption) ?reAb_21
              case hyAb_21 => (intro w hSw; (try dsimp only at hSw); go_simp; try with_reducible rfl)
              try simp only [Act.put, List.setIfInBounds_toArray, List.set_cons_zero, List.set_cons_succ]
              refine wpAnyH_take (i := 10) (oi := { dst := some 101, op := Go.Op.binOp Go.BinOp.neq 71 (Go.Operand.tmp 99) (Go.Operand.tmp 100) 71, type := 4, pos := "law.go:113", after := #[{ on := 8, ground := Go.Ground.data }, { on := 9, ground := Go.Ground.data }, { on := 4, ground := Go.Ground.guard }], guard := some (4, false) }) (v := ?vAb_22) rfl (by kernel_rfl) (by kernel_rfl) (by kernel_rfl) (fun _ _ _ h => h) (Or.inl ⟨by rfl, ?hyAb_22⟩) (by assumption) ?reAb_22
              case hyAb_22 => (intro w hSw; (try dsimp only at hSw); go_simp; try with_reducible rfl)
              try simp only [Act.put, List.setIfInBounds_toArray, List.set_cons_zero, List.set_cons_succ]
              refine wpAnyH_take (i := 11) (oi := { dst := some 102, op := Go.Op.pick (Go.Operand.tmp 95) (Go.Operand.const (Go.Value.bool true)) (Go.Operand.tmp 101), type := 4, pos := "law.go:113", after := #[{ on := 4, ground := Go.Ground.data }, { on := 10, ground := Go.Ground.data }], guard := none }) (v := ?vAb_23) rfl (by kernel_rfl) (by kernel_rfl) (by kernel_rfl) (fun _ _ _ h => h) (Or.inl ⟨by rfl, ?hyAb_23⟩) (by assumption) ?reAb_23
              case hyAb_23 => (intro w hSw; (try dsimp only at hSw); go_simp; try with_reducible rfl)
              try simp only [Act.put, List.setIfInBounds_toArray, List.set_cons_zero, List.set_cons_succ]
              refine wpAnyH_done (by kernel_rfl) ?dnAb_24 _
              go_wp2_with fail
              have hne8 : ady.block ≠ wr.heap.size := by have h1 := World.block_lt_of_cell? _ _ HY3.out; have h2 := HB9.out.size; omega
              refine wp_region_held_drew (S := (fun w' => w'.cell? ⟨wr.heap.size, 0, none⟩ = some (.int .i64 (p : Int)) ∧ w'.cell? ⟨wr.heap.size, 1, none⟩ = some (.int .i64 ((k : Int) - (ta.length : Int))) ∧ w'.cell? ady = some (.int .i64 (p : Int)) ∧ w'.cell? ⟨ady.block, ady.off + 1, none⟩ = some (.int .i64 ((k : Int) - (ta.length : Int))))) (by kernel_rfl) ?s0Ac (fun hHeld => ?b0Ac)
              case s0Ac => exact ⟨set_keep0 q0 q1, set_keep1 q1, set_far hne8 y0, set_far hne8 y1⟩
              refine wpAnyH_take (i := 0) (oi := { dst := some 116, op := Go.Op.move (Go.Operand.tmp 11), type := 68, pos := "law.go:120", after := #[], guard := none }) (v := ?vAc_25) rfl (by kernel_rfl) (by kernel_rfl) (by kernel_rfl) (fun _ _ _ h => h) (Or.inl ⟨by rfl, ?hyAc_25⟩) (by assumption) ?reAc_25
              case hyAc_25 => (intro w hSw; (try dsimp only at hSw); go_simp; try with_reducible rfl)
              try simp only [Act.put, List.setIfInBounds_toArray, List.set_cons_zero, List.set_cons_succ]
              refine wpAnyH_take (i := 1) (oi := { dst := some 117, op := Go.Op.call { callee := Go.Callee.builtin Go.Builtin.len, args := #[Go.Operand.tmp 116], argTypes := #[68] }, type := 3, pos := "law.go:120", after := #[{ on := 0, ground := Go.Ground.data }], guard := none }) (v := ?vAc_26) rfl (by kernel_rfl) (by kernel_rfl) (by kernel_rfl) (fun _ _ _ h => h) (Or.inl ⟨by rfl, ?hyAc_26⟩) (by assumption) ?reAc_26
              case hyAc_26 => (intro w hSw; (try dsimp only at hSw); go_simp; try with_reducible rfl)
              try simp only [Act.put, List.setIfInBounds_toArray, List.set_cons_zero, List.set_cons_succ]
              refine wpAnyH_take (i := 2) (oi := { dst := some 118, op := Go.Op.binOp Go.BinOp.eql 3 (Go.Operand.tmp 117) (Go.Operand.const (Go.Value.int Go.IntKind.i64 0)) 3, type := 4, pos := "law.go:120", after := #[{ on := 1, ground := Go.Ground.data }], guard := none }) (v := ?vAc_27) rfl (by kernel_rfl) (by kernel_rfl) (by kernel_rfl) (fun _ _ _ h => h) (Or.inl ⟨by rfl, ?hyAc_27⟩) (by assumption) ?reAc_27
              case hyAc_27 => (intro w hSw; (try dsimp only at hSw); go_simp; try with_reducible rfl)
              try simp only [Act.put, List.setIfInBounds_toArray, List.set_cons_zero, List.set_cons_succ]
              refine wpAnyH_take (i := 3) (oi := { dst := some 119, op := Go.Op.move (Go.Operand.tmp 118), type := 4, pos := "law.go:120", after := #[{ on := 2, ground := Go.Ground.data }], guard := none }) (v := ?vAc_28) rfl (by kernel_rfl) (by kernel_rfl) (by kernel_rfl) (fun _ _ _ h => h) (Or.inl ⟨by rfl, ?hyAc_28⟩) (by assumption) ?reAc_28
              case hyAc_28 => (intro w hSw; (try dsimp only at hSw); go_simp; try with_reducible rfl)
              try simp only [Act.put, List.setIfInBounds_toArray, List.set_cons_zero, List.set_cons_succ]
              refine wpAnyH_take (i := 4) (oi := { dst := some 120, op := Go.Op.move (Go.Operand.tmp 11), type := 68, pos := "law.go:120", after := #[{ on := 3, ground := Go.Ground.guard }], guard := some (3, false) }) (v := ?vAc_29) rfl (by kernel_rfl) (by kernel_rfl) (by kernel_rfl) (fun _ _ _ h => h) (Or.inl ⟨by rfl, ?hyAc_29⟩) (by assumption) ?reAc_29
              case hyAc_29 => (intro w hSw; (try dsimp only at hSw); go_simp; try with_reducible rfl)
              try simp only [Act.put, List.setIfInBounds_toArray, List.set_cons_zero, List.set_cons_succ]
              refine wpAnyH_take (i := 5) (oi := { dst := some 121, op := Go.Op.indexAddr 68 (Go.Operand.tmp 120) (Go.Operand.const (Go.Value.int Go.IntKind.i64 0)), type := 0, pos := "law.go:120", after := #[{ on := 4, ground := Go.Ground.data }, { on := 3, ground := Go.Ground.guard }], guard := some (3, false) }) (v := ?vAc_30) rfl (by kernel_rfl) (by kernel_rfl) (by kernel_rfl) (fun _ _ _ h => h) (Or.inl ⟨by rfl, ?hyAc_30⟩) (by assumption) ?reAc_30
              case hyAc_30 => (intro w hSw; (try dsimp only at hSw); go_simp; try with_reducible rfl)
              try simp only [Act.put, List.setIfInBounds_toArray, List.set_cons_zero, List.set_cons_succ]
              refine wpAnyH_take (i := 6) (oi := { dst := some 122, op := Go.Op.load 71 (Go.Operand.tmp 121), type := 71, pos := "law.go:120", after := #[{ on := 5, ground := Go.Ground.data }, { on := 3, ground := Go.Ground.guard }], guard := some (3, false) }) (v := ?vAc_31) rfl (by kernel_rfl) (by kernel_rfl) (by kernel_rfl) (fun _ _ _ h => h) (Or.inl ⟨by rfl, ?hyAc_31⟩) (by assumption) ?reAc_31
              case hyAc_31 => (intro w hSw; (try dsimp only at hSw); go_simp; try with_reducible rfl)
              try simp only [Act.put, List.setIfInBounds_toArray, List.set_cons_zero, List.set_cons_succ]
              refine wpAnyH_take (i := 7) (oi := { dst := some 123, op := Go.Op.load 71 (Go.Operand.tmp 14), type := 71, pos := "law.go:120", after := #[{ on := 3, ground := Go.Ground.guard }], guard := some (3, false) }) (v := ?vAc_32) rfl (by kernel_rfl) (by kernel_rfl) (by kernel_rfl) (fun _ _ _ h => h) (Or.inl ⟨by rfl, ?hyAc_32⟩) (by assumption) ?reAc_32
              case hyAc_32 => (intro w hSw; (try dsimp only at hSw); go_simp; try with_reducible rfl)
              try simp only [Act.put, List.setIfInBounds_toArray, List.set_cons_zero, List.set_cons_succ]
              refine wpAnyH_take (i := 8) (oi := { dst := some 124, op := Go.Op.binOp Go.BinOp.neq 71 (Go.Operand.tmp 122) (Go.Operand.tmp 123) 71, type := 4, pos := "law.go:120", after := #[{ on := 6, ground := Go.Ground.data }, { on := 7, ground := Go.Ground.data }, { on := 3, ground := Go.Ground.guard }], guard := some (3, false) }) (v := ?vAc_33) rfl (by kernel_rfl) (by kernel_rfl) (by kernel_rfl) (fun _ _ _ h => h) (Or.inl ⟨by rfl, ?hyAc_33⟩) (by assumption) ?reAc_33
              case hyAc_33 => (intro w hSw; (try dsimp only at hSw); go_simp; try with_reducible rfl)
              try simp only [Act.put, List.setIfInBounds_toArray, List.set_cons_zero, List.set_cons_succ]
              refine wpAnyH_take (i := 9) (oi := { dst := some 125, op := Go.Op.pick (Go.Operand.tmp 119) (Go.Operand.const (Go.Value.bool true)) (Go.Operand.tmp 124), type := 4, pos := "law.go:120", after := #[{ on := 3, ground := Go.Ground.data }, { on := 8, ground := Go.Ground.data }], guard := none }) (v := ?vAc_34) rfl (by kernel_rfl) (by kernel_rfl) (by kernel_rfl) (fun _ _ _ h => h) (Or.inl ⟨by rfl, ?hyAc_34⟩) (by assumption) ?reAc_34
              case hyAc_34 => (intro w hSw; (try dsimp only at hSw); go_simp; try with_reducible rfl)
              try simp only [Act.put, List.setIfInBounds_toArray, List.set_cons_zero, List.set_cons_succ]
              refine wpAnyH_done (by kernel_rfl) ?dnAc_35 _
              go_wp2_with fail
              have hcs := cnt_step (inA l ta.length) hlt
              have hpv : inA l ta.length F[i] = true := by rw [HFI.out]; exact decide_eq_true (by show (k : Int) + (((l.getD (p : Int).toNat []).length : Nat) : Int) ≤ _; rw [HGD.out]; omega)
              rw [hpv] at hcs
              simp only [if_true, if_false, Bool.false_eq_true] at hcs
              have hnj : nJ l ta.length F (i + 1) = n + 1 := by rw [HNJ.out]; exact hcs
              have hbe : Go.RowKit.Below w9.heap.size w9 W1 := HW1.out.2
              have hbs := hbe.setCell (p := ⟨wr.heap.size, 1, none⟩) (show w9.heap.size ≤ wr.heap.size from HB9.out.size) (.int .i64 ((k : Int) - (ta.length : Int)))
              exact ⟨⟨i + 1, n + 1, ys', Ay', cy - 1, by go_num, by omega, by go_num, hnj.symm, rfl, HY2.out.2.1, by have := HY2.out.2.2; omega, HY2.out.1, (by repeat (first | exact hbs | exact hbe | apply below_drew1 | apply pw_below_drewN))⟩, by simp only [intOf]; omega⟩
            ·
              have dP : decide ((k : Int) + (l[p].length : Int) ≤ (ta.length : Int)) = true := decide_eq_true (by omega)
              have dQ : decide ((ta.length : Int) ≤ (k : Int)) = false := decide_eq_false (by omega)
              have dQ2 : decide (ta.length ≤ k) = false := decide_eq_false (by omega)
              have hQi : ¬ ((ta.length : Int) ≤ (k : Int)) := by omega
              have hPi : (k : Int) + (l[p].length : Int) ≤ (ta.length : Int) := by omega
              obtain ⟨hnX, hxn⟩ := next_left HFe.out.2.1 hlt (show inA l ta.length F[i] = true by rw [HFI.out]; exact decide_eq_true (by show (k : Int) + (((l.getD (p : Int).toNat []).length : Nat) : Int) ≤ _; rw [HGD.out]; omega))
              rw [HFI.out] at hxn
              have hnX' : n < X.length := by rw [HNJ.out]; exact hnX
              obtain ⟨ad7, e7, x70, x71⟩ := hit_at HX9.out n hnX'
              subst e7
              have hxn' : X[n] = ⟨(p : Int), (k : Int)⟩ := by have e_ := HNJ.out; unfold nJ at e_; subst e_; exact hxn
              rw [hxn'] at x70 x71
              replace x70 := cell_below HB9.out x70
              replace x71 := cell_below HB9.out x71
              have hnX2 : (n : Int) < (X.length : Int) := by omega
              have dX : decide (X.length ≤ n) = false := decide_eq_false (by omega)
              have dX2 : decide ((X.length : Int) ≤ (n : Int)) = false := decide_eq_false (by omega)
              clear hnX hxn hxn'
              go_wp2_with fail
              obtain ⟨W1, hW1⟩ : ∃ W1, W1 = wr.alloc (.cells #[.int .i64 (p : Int), .int .i64 (k : Int)] 71) := ⟨_, rfl⟩
              have hb1 : W1.heap[wr.heap.size]? = some (.cells #[.int .i64 (p : Int), .int .i64 (k : Int)] 71 (0, 0)) := by rw [hW1]; exact heap_alloc_new _ _
              have q0 : W1.cell? ⟨wr.heap.size, 0, none⟩ = some (.int .i64 (p : Int)) := (blk_cell hb1 0).trans rfl
              have q1 : W1.cell? ⟨wr.heap.size, 1, none⟩ = some (.int .i64 (k : Int)) := (blk_cell hb1 1).trans rfl
              have gw : Grows wr W1 := by rw [hW1]; exact (Grows.refl wr).alloc _
              have hx3 := cell_grows gw hx3r
              replace x70 := cell_grows gw x70
              replace x71 := cell_grows gw x71
              rw [← hW1]
              have HW1 := Aside0.mk (And.intro hb1 (HB9.out.trans (gw.below.mono HB9.out.size)))
              have zq := fun m => blk_frozen hb1 m
              have zq1 := zq 1
              clear zq
              clear hb1 gw hW1
              refine wp_region_held_drew (S := (fun w' => w'.cell? ⟨wr.heap.size, 0, none⟩ = some (.int .i64 (p : Int)) ∧ w'.cell? ⟨wr.heap.size, 1, none⟩ = some (.int .i64 (k : Int)) ∧ w'.cell? (ad.add p) = some (.slice A3 l[p].length c3))) (by kernel_rfl) ?s0Ba (fun hHeld => ?b0Ba)
              case s0Ba => (first | exact ⟨q0, q1, hx3⟩ | go_keep)
              refine wpAnyH_take (i := 0) (oi := { dst := some 78, op := Go.Op.fieldAddr 71 (Go.Operand.tmp 14) 1, type := 0, pos := "law.go:111", after := #[], guard := none }) (v := ?vBa_36) rfl (by kernel_rfl) (by kernel_rfl) (by kernel_rfl) (fun _ _ _ h => h) (Or.inl ⟨by rfl, ?hyBa_36⟩) (by assumption) ?reBa_36
              case hyBa_36 => (intro w hSw; (try dsimp only at hSw); go_simp; try with_reducible rfl)
              try simp only [Act.put, List.setIfInBounds_toArray, List.set_cons_zero, List.set_cons_succ]
              refine wpAnyH_take (i := 1) (oi := { dst := some 79, op := Go.Op.load 3 (Go.Operand.tmp 78), type := 3, pos := "law.go:111", after := #[{ on := 0, ground := Go.Ground.data }], guard := none }) (v := ?vBa_37) rfl (by kernel_rfl) (by kernel_rfl) (by kernel_rfl) (fun _ _ _ h => h) (Or.inl ⟨by rfl, ?hyBa_37⟩) (by assumption) ?reBa_37
              case hyBa_37 => (intro w hSw; (try dsimp only at hSw); go_simp; try with_reducible rfl)
              try simp only [Act.put, List.setIfInBounds_toArray, List.set_cons_zero, List.set_cons_succ]
              refine wpAnyH_take (i := 2) (oi := { dst := some 80, op := Go.Op.move (Go.Operand.tmp 0), type := 45, pos := "law.go:111", after := #[], guard := none }) (v := ?vBa_38) rfl (by kernel_rfl) (by kernel_rfl) (by kernel_rfl) (fun _ _ _ h => h) (Or.inl ⟨by rfl, ?hyBa_38⟩) (by assumption) ?reBa_38
              case hyBa_38 => (intro w hSw; (try dsimp only at hSw); go_simp; try with_reducible rfl)
              try simp only [Act.put, List.setIfInBounds_toArray, List.set_cons_zero, List.set_cons_succ]
              refine wpAnyH_take (i := 3) (oi := { dst := some 81, op := Go.Op.fieldAddr 71 (Go.Operand.tmp 14) 0, type := 0, pos := "law.go:111", after := #[], guard := none }) (v := ?vBa_39) rfl (by kernel_rfl) (by kernel_rfl) (by kernel_rfl) (fun _ _ _ h => h) (Or.inl ⟨by rfl, ?hyBa_39⟩) (by assumption) ?reBa_39
              case hyBa_39 => (intro w hSw; (try dsimp only at hSw); go_simp; try with_reducible rfl)
              try simp only [Act.put, List.setIfInBounds_toArray, List.set_cons_zero, List.set_cons_succ]
              refine wpAnyH_take (i := 4) (oi := { dst := some 82, op := Go.Op.load 3 (Go.Operand.tmp 81), type := 3, pos := "law.go:111", after := #[{ on := 3, ground := Go.Ground.data }], guard := none }) (v := ?vBa_40) rfl (by kernel_rfl) (by kernel_rfl) (by kernel_rfl) (fun _ _ _ h => h) (Or.inl ⟨by rfl, ?hyBa_40⟩) (by assumption) ?reBa_40
              case hyBa_40 => (intro w hSw; (try dsimp only at hSw); go_simp; try with_reducible rfl)
              try simp only [Act.put, List.setIfInBounds_toArray, List.set_cons_zero, List.set_cons_succ]
              refine wpAnyH_take (i := 5) (oi := { dst := some 83, op := Go.Op.indexAddr 45 (Go.Operand.tmp 80) (Go.Operand.tmp 82), type := 0, pos := "law.go:111", after := #[{ on := 2, ground := Go.Ground.data }, { on := 4, ground := Go.Ground.data }], guard := none }) (v := ?vBa_41) rfl (by kernel_rfl) (by kernel_rfl) (by kernel_rfl) (fun _ _ _ h => h) (Or.inl ⟨by rfl, ?hyBa_41⟩) (by assumption) ?reBa_41
              case hyBa_41 => (intro w hSw; (try dsimp only at hSw); go_simp; try with_reducible rfl)
              try simp only [Act.put, List.setIfInBounds_toArray, List.set_cons_zero, List.set_cons_succ]
              refine wpAnyH_take (i := 6) (oi := { dst := some 84, op := Go.Op.load 23 (Go.Operand.tmp 83), type := 23, pos := "law.go:111", after := #[{ on := 5, ground := Go.Ground.data }], guard := none }) (v := ?vBa_42) rfl (by kernel_rfl) (by kernel_rfl) (by kernel_rfl) (fun _ _ _ h => h) (Or.inl ⟨by rfl, ?hyBa_42⟩) (by assumption) ?reBa_42
              case hyBa_42 => (intro w hSw; (try dsimp only at hSw); go_simp; try with_reducible rfl)
              try simp only [Act.put, List.setIfInBounds_toArray, List.set_cons_zero, List.set_cons_succ]
              refine wpAnyH_take (i := 7) (oi := { dst := some 85, op := Go.Op.call { callee := Go.Callee.builtin Go.Builtin.len, args := #[Go.Operand.tmp 84], argTypes := #[23] }, type := 3, pos := "law.go:111", after := #[{ on := 6, ground := Go.Ground.data }], guard := none }) (v := ?vBa_43) rfl (by kernel_rfl) (by kernel_rfl) (by kernel_rfl) (fun _ _ _ h => h) (Or.inl ⟨by rfl, ?hyBa_43⟩) (by assumption) ?reBa_43
              case hyBa_43 => (intro w hSw; (try dsimp only at hSw); go_simp; try with_reducible rfl)
              try simp only [Act.put, List.setIfInBounds_toArray, List.set_cons_zero, List.set_cons_succ]
              refine wpAnyH_take (i := 8) (oi := { dst := some 86, op := Go.Op.binOp Go.BinOp.add 3 (Go.Operand.tmp 79) (Go.Operand.tmp 85) 3, type := 3, pos := "law.go:111", after := #[{ on := 1, ground := Go.Ground.data }, { on := 7, ground := Go.Ground.data }], guard := none }) (v := ?vBa_44) rfl (by kernel_rfl) (by kernel_rfl) (by kernel_rfl) (fun _ _ _ h => h) (Or.inl ⟨by rfl, ?hyBa_44⟩) (by assumption) ?reBa_44
              case hyBa_44 => (intro w hSw; (try dsimp only at hSw); go_simp; try with_reducible rfl)
              try simp only [Act.put, List.setIfInBounds_toArray, List.set_cons_zero, List.set_cons_succ]
              refine wpAnyH_take (i := 9) (oi := { dst := some 15, op := Go.Op.assign (Go.Operand.tmp 86), type := 3, pos := "law.go:111", after := #[{ on := 8, ground := Go.Ground.data }, { on := 0, ground := Go.Ground.phase }, { on := 1, ground := Go.Ground.phase }, { on := 2, ground := Go.Ground.phase }, { on := 3, ground := Go.Ground.phase }, { on := 4, ground := Go.Ground.phase }, { on := 5, ground := Go.Ground.phase }, { on := 6, ground := Go.Ground.phase }, { on := 7, ground := Go.Ground.phase }, { on := 8, ground := Go.Ground.phase }], guard := none }) (v := ?vBa_45) rfl (by kernel_rfl) (by kernel_rfl) (by kernel_rfl) (fun _ _ _ h => h) (Or.inl ⟨by rfl, ?hyBa_45⟩) (by assumption) ?reBa_45
              case hyBa_45 => (intro w hSw; (try dsimp only at hSw); go_simp; try with_reducible rfl)
              try simp only [Act.put, List.setIfInBounds_toArray, List.set_cons_zero, List.set_cons_succ]
              refine wpAnyH_done (by kernel_rfl) ?dnBa_46 _
              go_wp2_with fail
              refine wp_region_held_drew (S := (fun w' => w'.cell? ⟨wr.heap.size, 0, none⟩ = some (.int .i64 (p : Int)) ∧ w'.cell? ⟨wr.heap.size, 1, none⟩ = some (.int .i64 (k : Int)) ∧ w'.cell? (ad7.add (n * 2)) = some (.int .i64 (p : Int)) ∧ w'.cell? ⟨(ad7.add (n * 2)).block, (ad7.add (n * 2)).off + 1, none⟩ = some (.int .i64 (k : Int)))) (by kernel_rfl) ?s0Bb (fun hHeld => ?b0Bb)
              case s0Bb => (first | exact ⟨q0, q1, x70, x71⟩ | go_keep)
              refine wpAnyH_take (i := 0) (oi := { dst := some 91, op := Go.Op.move (Go.Operand.tmp 12), type := 3, pos := "law.go:113", after := #[], guard := none }) (v := ?vBb_47) rfl (by kernel_rfl) (by kernel_rfl) (by kernel_rfl) (fun _ _ _ h => h) (Or.inl ⟨by rfl, ?hyBb_47⟩) (by assumption) ?reBb_47
              case hyBb_47 => (intro w hSw; (try dsimp only at hSw); go_simp; try with_reducible rfl)
              try simp only [Act.put, List.setIfInBounds_toArray, List.set_cons_zero, List.set_cons_succ]
              refine wpAnyH_take (i := 1) (oi := { dst := some 92, op := Go.Op.move (Go.Operand.tmp 10), type := 68, pos := "law.go:113", after := #[], guard := none }) (v := ?vBb_48) rfl (by kernel_rfl) (by kernel_rfl) (by kernel_rfl) (fun _ _ _ h => h) (Or.inl ⟨by rfl, ?hyBb_48⟩) (by assumption) ?reBb_48
              case hyBb_48 => (intro w hSw; (try dsimp only at hSw); go_simp; try with_reducible rfl)
              try simp only [Act.put, List.setIfInBounds_toArray, List.set_cons_zero, List.set_cons_succ]
              refine wpAnyH_take (i := 2) (oi := { dst := some 93, op := Go.Op.call { callee := Go.Callee.builtin Go.Builtin.len, args := #[Go.Operand.tmp 92], argTypes := #[68] }, type := 3, pos := "law.go:113", after := #[{ on := 1, ground := Go.Ground.data }], guard := none }) (v := ?vBb_49) rfl (by kernel_rfl) (by kernel_rfl) (by kernel_rfl) (fun _ _ _ h => h) (Or.inl ⟨by rfl, ?hyBb_49⟩) (by assumption) ?reBb_49
              case hyBb_49 => (intro w hSw; (try dsimp only at hSw); go_simp; try with_reducible rfl)
              try simp only [Act.put, List.setIfInBounds_toArray, List.set_cons_zero, List.set_cons_succ]
              refine wpAnyH_take (i := 3) (oi := { dst := some 94, op := Go.Op.binOp Go.BinOp.geq 3 (Go.Operand.tmp 91) (Go.Operand.tmp 93) 3, type := 4, pos := "law.go:113", after := #[{ on := 0, ground := Go.Ground.data }, { on := 2, ground := Go.Ground.data }], guard := none }) (v := ?vBb_50) rfl (by kernel_rfl) (by kernel_rfl) (by kernel_rfl) (fun _ _ _ h => h) (Or.inl ⟨by rfl, ?hyBb_50⟩) (by assumption) ?reBb_50
              case hyBb_50 => (intro w hSw; (try dsimp only at hSw); go_simp; try with_reducible rfl)
              try simp only [Act.put, List.setIfInBounds_toArray, List.set_cons_zero, List.set_cons_succ]
              refine wpAnyH_take (i := 4) (oi := { dst := some 95, op := Go.Op.move (Go.Operand.tmp 94), type := 4, pos := "law.go:113", after := #[{ on := 3, ground := Go.Ground.data }], guard := none }) (v := ?vBb_51) rfl (by kernel_rfl) (by kernel_rfl) (by kernel_rfl) (fun _ _ _ h => h) (Or.inl ⟨by rfl, ?hyBb_51⟩) (by assumption) ?reBb_51
              case hyBb_51 => (intro w hSw; (try dsimp only at hSw); go_simp; try with_reducible rfl)
              try simp only [Act.put, List.setIfInBounds_toArray, List.set_cons_zero, List.set_cons_succ]
              refine wpAnyH_take (i := 5) (oi := { dst := some 96, op := Go.Op.move (Go.Operand.tmp 10), type := 68, pos := "law.go:113", after := #[{ on := 4, ground := Go.Ground.guard }], guard := some (4, false) }) (v := ?vBb_52) rfl (by kernel_rfl) (by kernel_rfl) (by kernel_rfl) (fun _ _ _ h => h) (Or.inl ⟨by rfl, ?hyBb_52⟩) (by assumption) ?reBb_52
              case hyBb_52 => (intro w hSw; (try dsimp only at hSw); go_simp; try with_reducible rfl)
              try simp only [Act.put, List.setIfInBounds_toArray, List.set_cons_zero, List.set_cons_succ]
              refine wpAnyH_take (i := 6) (oi := { dst := some 97, op := Go.Op.move (Go.Operand.tmp 12), type := 3, pos := "law.go:113", after := #[{ on := 4, ground := Go.Ground.guard }], guard := some (4, false) }) (v := ?vBb_53) rfl (by kernel_rfl) (by kernel_rfl) (by kernel_rfl) (fun _ _ _ h => h) (Or.inl ⟨by rfl, ?hyBb_53⟩) (by assumption) ?reBb_53
              case hyBb_53 => (intro w hSw; (try dsimp only at hSw); go_simp; try with_reducible rfl)
              try simp only [Act.put, List.setIfInBounds_toArray, List.set_cons_zero, List.set_cons_succ]
              refine wpAnyH_take (i := 7) (oi := { dst := some 98, op := Go.Op.indexAddr 68 (Go.Operand.tmp 96) (Go.Operand.tmp 97), type := 0, pos := "law.go:113", after := #[{ on := 5, ground := Go.Ground.data }, { on := 6, ground := Go.Ground.data }, { on := 4, ground := Go.Ground.guard }], guard := some (4, false) }) (v := ?vBb_54) rfl (by kernel_rfl) (by kernel_rfl) (by kernel_rfl) (fun _ _ _ h => h) (Or.inl ⟨by rfl, ?hyBb_54⟩) (by assumption) ?reBb_54
              case hyBb_54 => (intro w hSw; (try dsimp only at hSw); go_simp; try with_reducible rfl)
              try simp only [Act.put, List.setIfInBounds_toArray, List.set_cons_zero, List.set_cons_succ]
              refine wpAnyH_take (i := 8) (oi := { dst := some 99, op := Go.Op.load 71 (Go.Operand.tmp 98), type := 71, pos := "law.go:113", after := #[{ on := 7, ground := Go.Ground.data }, { on := 4, ground := Go.Ground.guard }], guard := some (4, false) }) (v := ?vBb_55) rfl (by kernel_rfl) (by kernel_rfl) (by kernel_rfl) (fun _ _ _ h => h) (Or.inl ⟨by rfl, ?hyBb_55⟩) (by assumption) ?reBb_55
              case hyBb_55 => (intro w hSw; (try dsimp only at hSw); go_simp; try with_reducible rfl)
              try simp only [Act.put, List.setIfInBounds_toArray, List.set_cons_zero, List.set_cons_succ]
              refine wpAnyH_take (i := 9) (oi := { dst := some 100, op := Go.Op.load 71 (Go.Operand.tmp 14), type := 71, pos := "law.go:113", after := #[{ on := 4, ground := Go.Ground.guard }], guard := some (4, false) }) (v := ?vBb_56) rfl (by kernel_rfl) (by kernel_rfl) (by kernel_rfl) (fun _ _ _ h => h) (Or.inl ⟨by rfl, ?hyBb_56⟩) (by assumption) ?reBb_56
              case hyBb_56 => (intro w hSw; (try dsimp only at hSw); go_simp; try with_reducible rfl)
              try simp only [Act.put, List.setIfInBounds_toArray, List.set_cons_zero, List.set_cons_succ]
              refine wpAnyH_take (i := 10) (oi := { dst := some 101, op := Go.Op.binOp Go.BinOp.neq 71 (Go.Operand.tmp 99) (Go.Operand.tmp 100) 71, type := 4, pos := "law.go:113", after := #[{ on := 8, ground := Go.Ground.data }, { on := 9, ground := Go.Ground.data }, { on := 4, ground := Go.Ground.guard }], guard := some (4, false) }) (v := ?vBb_57) rfl (by kernel_rfl) (by kernel_rfl) (by kernel_rfl) (fun _ _ _ h => h) (Or.inl ⟨by rfl, ?hyBb_57⟩) (by assumption) ?reBb_57
              case hyBb_57 => (intro w hSw; (try dsimp only at hSw); go_simp; try with_reducible rfl)
              try simp only [Act.put, List.setIfInBounds_toArray, List.set_cons_zero, List.set_cons_succ]
              refine wpAnyH_take (i := 11) (oi := { dst := some 102, op := Go.Op.pick (Go.Operand.tmp 95) (Go.Operand.const (Go.Value.bool true)) (Go.Operand.tmp 101), type := 4, pos := "law.go:113", after := #[{ on := 4, ground := Go.Ground.data }, { on := 10, ground := Go.Ground.data }], guard := none }) (v := ?vBb_58) rfl (by kernel_rfl) (by kernel_rfl) (by kernel_rfl) (fun _ _ _ h => h) (Or.inl ⟨by rfl, ?hyBb_58⟩) (by assumption) ?reBb_58
              case hyBb_58 => (intro w hSw; (try dsimp only at hSw); go_simp; try with_reducible rfl)
              try simp only [Act.put, List.setIfInBounds_toArray, List.set_cons_zero, List.set_cons_succ]
              refine wpAnyH_done (by kernel_rfl) ?dnBb_59 _
              go_wp2_with fail
              have hcs := cnt_step (inA l ta.length) hlt
              have hpv : inA l ta.length F[i] = true := by rw [HFI.out]; exact decide_eq_true (by show (k : Int) + (((l.getD (p : Int).toNat []).length : Nat) : Int) ≤ _; rw [HGD.out]; omega)
              rw [hpv] at hcs
              simp only [if_true, if_false, Bool.false_eq_true] at hcs
              have hnj : nJ l ta.length F (i + 1) = n + 1 := by rw [HNJ.out]; exact hcs
              have hbe : Go.RowKit.Below w9.heap.size w9 W1 := HW1.out.2
              have hysn : ys = yJ ta.length F (i + 1) := by rw [HYJ.out]; unfold yJ; rw [drop_step _ _ hlt, if_neg (by rw [HFI.out]; unfold inB; simp; omega)]; rfl
              exact ⟨⟨i + 1, n + 1, ys, Ay, cy, by go_num, by omega, by go_num, hnj.symm, rfl, hysn, HYC.out.1, HYC.out.2, (by repeat (first | exact hbe | apply below_drew1 | apply pw_below_drewN))⟩, by simp only [intOf]; omega⟩
          · by_cases hQ : ta.length ≤ k
            ·
              have dP : decide ((k : Int) + (l[p].length : Int) ≤ (ta.length : Int)) = false := decide_eq_false (by omega)
              have dQ : decide ((ta.length : Int) ≤ (k : Int)) = true := decide_eq_true (by omega)
              have dQ2 : decide (ta.length ≤ k) = true := decide_eq_true (by omega)
              have hQi : (ta.length : Int) ≤ (k : Int) := by omega
              have hPi : ¬ ((k : Int) + (l[p].length : Int) ≤ (ta.length : Int)) := by omega
              have hys : ys = ⟨(p : Int), (k : Int) - (ta.length : Int)⟩ :: yJ ta.length F (i + 1) := by rw [HYJ.out]; unfold yJ; rw [drop_step _ _ hlt, if_pos (show inB ta.length F[i] = true by rw [HFI.out]; exact decide_eq_true (by show (ta.length : Int) ≤ (k : Int); omega)), HFI.out]; rfl
              obtain ⟨ys', hys'⟩ : ∃ ys', ys' = yJ ta.length F (i + 1) := ⟨_, rfl⟩
              rw [← hys'] at hys
              have hyl : ys.length = ys'.length + 1 := by rw [hys]; rfl
              have hCy := HYC.out.2
              have hly := HYC.out.1
              rw [hyl] at hCy hly
              rw [hys] at hCy
              obtain ⟨ady, ey, y0, y1⟩ := hit_at (l := ⟨(p : Int), (k : Int) - (ta.length : Int)⟩ :: ys') hCy 0 (by simp)
              subst ey
              have ey0 : ady.add (0 * 2) = ady := by unfold Addr.add; simp
              rw [ey0] at y0 y1
              simp only [List.getElem_cons_zero] at y0 y1
              have HY3 := Aside0.mk y0
              replace y0 := cell_below HB9.out y0
              replace y1 := cell_below HB9.out y1
              have hCy' := C71_cut hCy hly
              obtain ⟨i71, hi71, hz71, hsz71, hby71⟩ := info_parts info71
              have hcut := cut_from9 (P := Try.prog) 68 71 .i64 Try.underlying68 hi71 2 hsz71 (some ady) (ys'.length + 1) cy 1 (by omega) (by omega)
              obtain ⟨Ay', hAy'⟩ : ∃ Ay', Ay' = (if cy = 1 then some ady else some (ady.add 2)) := ⟨_, rfl⟩
              rw [← hAy'] at hCy'
              have hcut2 : ∀ W : World, (Instr.slice 68 (.slice (some ady) (ys'.length + 1) cy) (some (.int .i64 1)) none none).run Try.prog W = .ok (.slice Ay' ys'.length (cy - 1)) W := by intro W; have h_ := hcut W; rw [hAy']; exact h_
              have hy1 : 0 < ys'.length + 1 := by omega
              have dY : ((((ys'.length + 1 : Nat) : Int)) == 0) = false := by simp; omega
              have dY2 : (((ys'.length : Int) + 1) == 0) = false := by simp; omega
              have HY2 := Aside0.mk (And.intro hCy' (And.intro hys' hly))
              rw [hyl]
              clear hcut hi71 hz71 hsz71 hby71 hAy' hCy' hys' hyl hCy hly hys i71
              go_wp2_with fail
              obtain ⟨W1, hW1⟩ : ∃ W1, W1 = wr.alloc (.cells #[.int .i64 (p : Int), .int .i64 (k : Int)] 71) := ⟨_, rfl⟩
              have hb1 : W1.heap[wr.heap.size]? = some (.cells #[.int .i64 (p : Int), .int .i64 (k : Int)] 71 (0, 0)) := by rw [hW1]; exact heap_alloc_new _ _
              have q0 : W1.cell? ⟨wr.heap.size, 0, none⟩ = some (.int .i64 (p : Int)) := (blk_cell hb1 0).trans rfl
              have q1 : W1.cell? ⟨wr.heap.size, 1, none⟩ = some (.int .i64 (k : Int)) := (blk_cell hb1 1).trans rfl
              have gw : Grows wr W1 := by rw [hW1]; exact (Grows.refl wr).alloc _
              have hx3 := cell_grows gw hx3r
              replace y0 := cell_grows gw y0
              replace y1 := cell_grows gw y1
              rw [← hW1]
              have HW1 := Aside0.mk (And.intro hb1 (HB9.out.trans (gw.below.mono HB9.out.size)))
              have zq := fun m => blk_frozen hb1 m
              have zq1 := zq 1
              clear zq
              clear hb1 gw hW1
              refine wp_region_held_drew (S := (fun w' => w'.cell? ⟨wr.heap.size, 0, none⟩ = some (.int .i64 (p : Int)) ∧ w'.cell? ⟨wr.heap.size, 1, none⟩ = some (.int .i64 (k : Int)) ∧ w'.cell? (ad.add p) = some (.slice A3 l[p].length c3))) (by kernel_rfl) ?s0Ca (fun hHeld => ?b0Ca)
              case s0Ca => (first | exact ⟨q0, q1, hx3⟩ | go_keep)
              refine wpAnyH_take (i := 0) (oi := { dst := some 78, op := Go.Op.fieldAddr 71 (Go.Operand.tmp 14) 1, type := 0, pos := "law.go:111", after := #[], guard := none }) (v := ?vCa_60) rfl (by kernel_rfl) (by kernel_rfl) (by kernel_rfl) (fun _ _ _ h => h) (Or.inl ⟨by rfl, ?hyCa_60⟩) (by assumption) ?reCa_60
              case hyCa_60 => (intro w hSw; (try dsimp only at hSw); go_simp; try with_reducible rfl)
              try simp only [Act.put, List.setIfInBounds_toArray, List.set_cons_zero, List.set_cons_succ]
              refine wpAnyH_take (i := 1) (oi := { dst := some 79, op := Go.Op.load 3 (Go.Operand.tmp 78), type := 3, pos := "law.go:111", after := #[{ on := 0, ground := Go.Ground.data }], guard := none }) (v := ?vCa_61) rfl (by kernel_rfl) (by kernel_rfl) (by kernel_rfl) (fun _ _ _ h => h) (Or.inl ⟨by rfl, ?hyCa_61⟩) (by assumption) ?reCa_61
              case hyCa_61 => (intro w hSw; (try dsimp only at hSw); go_simp; try with_reducible rfl)
              try simp only [Act.put, List.setIfInBounds_toArray, List.set_cons_zero, List.set_cons_succ]
              refine wpAnyH_take (i := 2) (oi := { dst := some 80, op := Go.Op.move (Go.Operand.tmp 0), type := 45, pos := "law.go:111", after := #[], guard := none }) (v := ?vCa_62) rfl (by kernel_rfl) (by kernel_rfl) (by kernel_rfl) (fun _ _ _ h => h) (Or.inl ⟨by rfl, ?hyCa_62⟩) (by assumption) ?reCa_62
              case hyCa_62 => (intro w hSw; (try dsimp only at hSw); go_simp; try with_reducible rfl)
              try simp only [Act.put, List.setIfInBounds_toArray, List.set_cons_zero, List.set_cons_succ]
              refine wpAnyH_take (i := 3) (oi := { dst := some 81, op := Go.Op.fieldAddr 71 (Go.Operand.tmp 14) 0, type := 0, pos := "law.go:111", after := #[], guard := none }) (v := ?vCa_63) rfl (by kernel_rfl) (by kernel_rfl) (by kernel_rfl) (fun _ _ _ h => h) (Or.inl ⟨by rfl, ?hyCa_63⟩) (by assumption) ?reCa_63
              case hyCa_63 => (intro w hSw; (try dsimp only at hSw); go_simp; try with_reducible rfl)
              try simp only [Act.put, List.setIfInBounds_toArray, List.set_cons_zero, List.set_cons_succ]
              refine wpAnyH_take (i := 4) (oi := { dst := some 82, op := Go.Op.load 3 (Go.Operand.tmp 81), type := 3, pos := "law.go:111", after := #[{ on := 3, ground := Go.Ground.data }], guard := none }) (v := ?vCa_64) rfl (by kernel_rfl) (by kernel_rfl) (by kernel_rfl) (fun _ _ _ h => h) (Or.inl ⟨by rfl, ?hyCa_64⟩) (by assumption) ?reCa_64
              case hyCa_64 => (intro w hSw; (try dsimp only at hSw); go_simp; try with_reducible rfl)
              try simp only [Act.put, List.setIfInBounds_toArray, List.set_cons_zero, List.set_cons_succ]
              refine wpAnyH_take (i := 5) (oi := { dst := some 83, op := Go.Op.indexAddr 45 (Go.Operand.tmp 80) (Go.Operand.tmp 82), type := 0, pos := "law.go:111", after := #[{ on := 2, ground := Go.Ground.data }, { on := 4, ground := Go.Ground.data }], guard := none }) (v := ?vCa_65) rfl (by kernel_rfl) (by kernel_rfl) (by kernel_rfl) (fun _ _ _ h => h) (Or.inl ⟨by rfl, ?hyCa_65⟩) (by assumption) ?reCa_65
              case hyCa_65 => (intro w hSw; (try dsimp only at hSw); go_simp; try with_reducible rfl)
              try simp only [Act.put, List.setIfInBounds_toArray, List.set_cons_zero, List.set_cons_succ]
              refine wpAnyH_take (i := 6) (oi := { dst := some 84, op := Go.Op.load 23 (Go.Operand.tmp 83), type := 23, pos := "law.go:111", after := #[{ on := 5, ground := Go.Ground.data }], guard := none }) (v := ?vCa_66) rfl (by kernel_rfl) (by kernel_rfl) (by kernel_rfl) (fun _ _ _ h => h) (Or.inl ⟨by rfl, ?hyCa_66⟩) (by assumption) ?reCa_66
              case hyCa_66 => (intro w hSw; (try dsimp only at hSw); go_simp; try with_reducible rfl)
              try simp only [Act.put, List.setIfInBounds_toArray, List.set_cons_zero, List.set_cons_succ]
              refine wpAnyH_take (i := 7) (oi := { dst := some 85, op := Go.Op.call { callee := Go.Callee.builtin Go.Builtin.len, args := #[Go.Operand.tmp 84], argTypes := #[23] }, type := 3, pos := "law.go:111", after := #[{ on := 6, ground := Go.Ground.data }], guard := none }) (v := ?vCa_67) rfl (by kernel_rfl) (by kernel_rfl) (by kernel_rfl) (fun _ _ _ h => h) (Or.inl ⟨by rfl, ?hyCa_67⟩) (by assumption) ?reCa_67
              case hyCa_67 => (intro w hSw; (try dsimp only at hSw); go_simp; try with_reducible rfl)
              try simp only [Act.put, List.setIfInBounds_toArray, List.set_cons_zero, List.set_cons_succ]
              refine wpAnyH_take (i := 8) (oi := { dst := some 86, op := Go.Op.binOp Go.BinOp.add 3 (Go.Operand.tmp 79) (Go.Operand.tmp 85) 3, type := 3, pos := "law.go:111", after := #[{ on := 1, ground := Go.Ground.data }, { on := 7, ground := Go.Ground.data }], guard := none }) (v := ?vCa_68) rfl (by kernel_rfl) (by kernel_rfl) (by kernel_rfl) (fun _ _ _ h => h) (Or.inl ⟨by rfl, ?hyCa_68⟩) (by assumption) ?reCa_68
              case hyCa_68 => (intro w hSw; (try dsimp only at hSw); go_simp; try with_reducible rfl)
              try simp only [Act.put, List.setIfInBounds_toArray, List.set_cons_zero, List.set_cons_succ]
              refine wpAnyH_take (i := 9) (oi := { dst := some 15, op := Go.Op.assign (Go.Operand.tmp 86), type := 3, pos := "law.go:111", after := #[{ on := 8, ground := Go.Ground.data }, { on := 0, ground := Go.Ground.phase }, { on := 1, ground := Go.Ground.phase }, { on := 2, ground := Go.Ground.phase }, { on := 3, ground := Go.Ground.phase }, { on := 4, ground := Go.Ground.phase }, { on := 5, ground := Go.Ground.phase }, { on := 6, ground := Go.Ground.phase }, { on := 7, ground := Go.Ground.phase }, { on := 8, ground := Go.Ground.phase }], guard := none }) (v := ?vCa_69) rfl (by kernel_rfl) (by kernel_rfl) (by kernel_rfl) (fun _ _ _ h => h) (Or.inl ⟨by rfl, ?hyCa_69⟩) (by assumption) ?reCa_69
              case hyCa_69 => (intro w hSw; (try dsimp only at hSw); go_simp; try with_reducible rfl)
              try simp only [Act.put, List.setIfInBounds_toArray, List.set_cons_zero, List.set_cons_succ]
              refine wpAnyH_done (by kernel_rfl) ?dnCa_70 _
              go_wp2_with fail
              have hne8 : ady.block ≠ wr.heap.size := by have h1 := World.block_lt_of_cell? _ _ HY3.out; have h2 := HB9.out.size; omega
              refine wp_region_held_drew (S := (fun w' => w'.cell? ⟨wr.heap.size, 0, none⟩ = some (.int .i64 (p : Int)) ∧ w'.cell? ⟨wr.heap.size, 1, none⟩ = some (.int .i64 ((k : Int) - (ta.length : Int))) ∧ w'.cell? ady = some (.int .i64 (p : Int)) ∧ w'.cell? ⟨ady.block, ady.off + 1, none⟩ = some (.int .i64 ((k : Int) - (ta.length : Int))))) (by kernel_rfl) ?s0Cc (fun hHeld => ?b0Cc)
              case s0Cc => exact ⟨set_keep0 q0 q1, set_keep1 q1, set_far hne8 y0, set_far hne8 y1⟩
              refine wpAnyH_take (i := 0) (oi := { dst := some 116, op := Go.Op.move (Go.Operand.tmp 11), type := 68, pos := "law.go:120", after := #[], guard := none }) (v := ?vCc_71) rfl (by kernel_rfl) (by kernel_rfl) (by kernel_rfl) (fun _ _ _ h => h) (Or.inl ⟨by rfl, ?hyCc_71⟩) (by assumption) ?reCc_71
              case hyCc_71 => (intro w hSw; (try dsimp only at hSw); go_simp; try with_reducible rfl)
              try simp only [Act.put, List.setIfInBounds_toArray, List.set_cons_zero, List.set_cons_succ]
              refine wpAnyH_take (i := 1) (oi := { dst := some 117, op := Go.Op.call { callee := Go.Callee.builtin Go.Builtin.len, args := #[Go.Operand.tmp 116], argTypes := #[68] }, type := 3, pos := "law.go:120", after := #[{ on := 0, ground := Go.Ground.data }], guard := none }) (v := ?vCc_72) rfl (by kernel_rfl) (by kernel_rfl) (by kernel_rfl) (fun _ _ _ h => h) (Or.inl ⟨by rfl, ?hyCc_72⟩) (by assumption) ?reCc_72
              case hyCc_72 => (intro w hSw; (try dsimp only at hSw); go_simp; try with_reducible rfl)
              try simp only [Act.put, List.setIfInBounds_toArray, List.set_cons_zero, List.set_cons_succ]
              refine wpAnyH_take (i := 2) (oi := { dst := some 118, op := Go.Op.binOp Go.BinOp.eql 3 (Go.Operand.tmp 117) (Go.Operand.const (Go.Value.int Go.IntKind.i64 0)) 3, type := 4, pos := "law.go:120", after := #[{ on := 1, ground := Go.Ground.data }], guard := none }) (v := ?vCc_73) rfl (by kernel_rfl) (by kernel_rfl) (by kernel_rfl) (fun _ _ _ h => h) (Or.inl ⟨by rfl, ?hyCc_73⟩) (by assumption) ?reCc_73
              case hyCc_73 => (intro w hSw; (try dsimp only at hSw); go_simp; try with_reducible rfl)
              try simp only [Act.put, List.setIfInBounds_toArray, List.set_cons_zero, List.set_cons_succ]
              refine wpAnyH_take (i := 3) (oi := { dst := some 119, op := Go.Op.move (Go.Operand.tmp 118), type := 4, pos := "law.go:120", after := #[{ on := 2, ground := Go.Ground.data }], guard := none }) (v := ?vCc_74) rfl (by kernel_rfl) (by kernel_rfl) (by kernel_rfl) (fun _ _ _ h => h) (Or.inl ⟨by rfl, ?hyCc_74⟩) (by assumption) ?reCc_74
              case hyCc_74 => (intro w hSw; (try dsimp only at hSw); go_simp; try with_reducible rfl)
              try simp only [Act.put, List.setIfInBounds_toArray, List.set_cons_zero, List.set_cons_succ]
              refine wpAnyH_take (i := 4) (oi := { dst := some 120, op := Go.Op.move (Go.Operand.tmp 11), type := 68, pos := "law.go:120", after := #[{ on := 3, ground := Go.Ground.guard }], guard := some (3, false) }) (v := ?vCc_75) rfl (by kernel_rfl) (by kernel_rfl) (by kernel_rfl) (fun _ _ _ h => h) (Or.inl ⟨by rfl, ?hyCc_75⟩) (by assumption) ?reCc_75
              case hyCc_75 => (intro w hSw; (try dsimp only at hSw); go_simp; try with_reducible rfl)
              try simp only [Act.put, List.setIfInBounds_toArray, List.set_cons_zero, List.set_cons_succ]
              refine wpAnyH_take (i := 5) (oi := { dst := some 121, op := Go.Op.indexAddr 68 (Go.Operand.tmp 120) (Go.Operand.const (Go.Value.int Go.IntKind.i64 0)), type := 0, pos := "law.go:120", after := #[{ on := 4, ground := Go.Ground.data }, { on := 3, ground := Go.Ground.guard }], guard := some (3, false) }) (v := ?vCc_76) rfl (by kernel_rfl) (by kernel_rfl) (by kernel_rfl) (fun _ _ _ h => h) (Or.inl ⟨by rfl, ?hyCc_76⟩) (by assumption) ?reCc_76
              case hyCc_76 => (intro w hSw; (try dsimp only at hSw); go_simp; try with_reducible rfl)
              try simp only [Act.put, List.setIfInBounds_toArray, List.set_cons_zero, List.set_cons_succ]
              refine wpAnyH_take (i := 6) (oi := { dst := some 122, op := Go.Op.load 71 (Go.Operand.tmp 121), type := 71, pos := "law.go:120", after := #[{ on := 5, ground := Go.Ground.data }, { on := 3, ground := Go.Ground.guard }], guard := some (3, false) }) (v := ?vCc_77) rfl (by kernel_rfl) (by kernel_rfl) (by kernel_rfl) (fun _ _ _ h => h) (Or.inl ⟨by rfl, ?hyCc_77⟩) (by assumption) ?reCc_77
              case hyCc_77 => (intro w hSw; (try dsimp only at hSw); go_simp; try with_reducible rfl)
              try simp only [Act.put, List.setIfInBounds_toArray, List.set_cons_zero, List.set_cons_succ]
              refine wpAnyH_take (i := 7) (oi := { dst := some 123, op := Go.Op.load 71 (Go.Operand.tmp 14), type := 71, pos := "law.go:120", after := #[{ on := 3, ground := Go.Ground.guard }], guard := some (3, false) }) (v := ?vCc_78) rfl (by kernel_rfl) (by kernel_rfl) (by kernel_rfl) (fun _ _ _ h => h) (Or.inl ⟨by rfl, ?hyCc_78⟩) (by assumption) ?reCc_78
              case hyCc_78 => (intro w hSw; (try dsimp only at hSw); go_simp; try with_reducible rfl)
              try simp only [Act.put, List.setIfInBounds_toArray, List.set_cons_zero, List.set_cons_succ]
              refine wpAnyH_take (i := 8) (oi := { dst := some 124, op := Go.Op.binOp Go.BinOp.neq 71 (Go.Operand.tmp 122) (Go.Operand.tmp 123) 71, type := 4, pos := "law.go:120", after := #[{ on := 6, ground := Go.Ground.data }, { on := 7, ground := Go.Ground.data }, { on := 3, ground := Go.Ground.guard }], guard := some (3, false) }) (v := ?vCc_79) rfl (by kernel_rfl) (by kernel_rfl) (by kernel_rfl) (fun _ _ _ h => h) (Or.inl ⟨by rfl, ?hyCc_79⟩) (by assumption) ?reCc_79
              case hyCc_79 => (intro w hSw; (try dsimp only at hSw); go_simp; try with_reducible rfl)
              try simp only [Act.put, List.setIfInBounds_toArray, List.set_cons_zero, List.set_cons_succ]
              refine wpAnyH_take (i := 9) (oi := { dst := some 125, op := Go.Op.pick (Go.Operand.tmp 119) (Go.Operand.const (Go.Value.bool true)) (Go.Operand.tmp 124), type := 4, pos := "law.go:120", after := #[{ on := 3, ground := Go.Ground.data }, { on := 8, ground := Go.Ground.data }], guard := none }) (v := ?vCc_80) rfl (by kernel_rfl) (by kernel_rfl) (by kernel_rfl) (fun _ _ _ h => h) (Or.inl ⟨by rfl, ?hyCc_80⟩) (by assumption) ?reCc_80
              case hyCc_80 => (intro w hSw; (try dsimp only at hSw); go_simp; try with_reducible rfl)
              try simp only [Act.put, List.setIfInBounds_toArray, List.set_cons_zero, List.set_cons_succ]
              refine wpAnyH_done (by kernel_rfl) ?dnCc_81 _
              go_wp2_with fail
              have hcs := cnt_step (inA l ta.length) hlt
              have hpv : inA l ta.length F[i] = false := by rw [HFI.out]; exact decide_eq_false (by show ¬ ((k : Int) + (((l.getD (p : Int).toNat []).length : Nat) : Int) ≤ _); rw [HGD.out]; omega)
              rw [hpv] at hcs
              simp only [if_true, if_false, Bool.false_eq_true] at hcs
              have hnj : nJ l ta.length F (i + 1) = n := by rw [HNJ.out]; exact hcs
              have hbe : Go.RowKit.Below w9.heap.size w9 W1 := HW1.out.2
              have hbs := hbe.setCell (p := ⟨wr.heap.size, 1, none⟩) (show w9.heap.size ≤ wr.heap.size from HB9.out.size) (.int .i64 ((k : Int) - (ta.length : Int)))
              exact ⟨⟨i + 1, n, ys', Ay', cy - 1, by go_num, by omega, by rfl, hnj.symm, rfl, HY2.out.2.1, by have := HY2.out.2.2; omega, HY2.out.1, (by repeat (first | exact hbs | exact hbe | apply below_drew1 | apply pw_below_drewN))⟩, by simp only [intOf]; omega⟩
            ·
              have dP : decide ((k : Int) + (l[p].length : Int) ≤ (ta.length : Int)) = false := decide_eq_false (by omega)
              have dQ : decide ((ta.length : Int) ≤ (k : Int)) = false := decide_eq_false (by omega)
              have dQ2 : decide (ta.length ≤ k) = false := decide_eq_false (by omega)
              have hQi : ¬ ((ta.length : Int) ≤ (k : Int)) := by omega
              have hPi : ¬ ((k : Int) + (l[p].length : Int) ≤ (ta.length : Int)) := by omega
              go_wp2_with fail
              obtain ⟨W1, hW1⟩ : ∃ W1, W1 = wr.alloc (.cells #[.int .i64 (p : Int), .int .i64 (k : Int)] 71) := ⟨_, rfl⟩
              have hb1 : W1.heap[wr.heap.size]? = some (.cells #[.int .i64 (p : Int), .int .i64 (k : Int)] 71 (0, 0)) := by rw [hW1]; exact heap_alloc_new _ _
              have q0 : W1.cell? ⟨wr.heap.size, 0, none⟩ = some (.int .i64 (p : Int)) := (blk_cell hb1 0).trans rfl
              have q1 : W1.cell? ⟨wr.heap.size, 1, none⟩ = some (.int .i64 (k : Int)) := (blk_cell hb1 1).trans rfl
              have gw : Grows wr W1 := by rw [hW1]; exact (Grows.refl wr).alloc _
              have hx3 := cell_grows gw hx3r
              rw [← hW1]
              have HW1 := Aside0.mk (And.intro hb1 (HB9.out.trans (gw.below.mono HB9.out.size)))
              have zq := fun m => blk_frozen hb1 m
              have zq1 := zq 1
              clear zq
              clear hb1 gw hW1
              refine wp_region_held_drew (S := (fun w' => w'.cell? ⟨wr.heap.size, 0, none⟩ = some (.int .i64 (p : Int)) ∧ w'.cell? ⟨wr.heap.size, 1, none⟩ = some (.int .i64 (k : Int)) ∧ w'.cell? (ad.add p) = some (.slice A3 l[p].length c3))) (by kernel_rfl) ?s0Da (fun hHeld => ?b0Da)
              case s0Da => (first | exact ⟨q0, q1, hx3⟩ | go_keep)
              refine wpAnyH_take (i := 0) (oi := { dst := some 78, op := Go.Op.fieldAddr 71 (Go.Operand.tmp 14) 1, type := 0, pos := "law.go:111", after := #[], guard := none }) (v := ?vDa_82) rfl (by kernel_rfl) (by kernel_rfl) (by kernel_rfl) (fun _ _ _ h => h) (Or.inl ⟨by rfl, ?hyDa_82⟩) (by assumption) ?reDa_82
              case hyDa_82 => (intro w hSw; (try dsimp only at hSw); go_simp; try with_reducible rfl)
              try simp only [Act.put, List.setIfInBounds_toArray, List.set_cons_zero, List.set_cons_succ]
              refine wpAnyH_take (i := 1) (oi := { dst := some 79, op := Go.Op.load 3 (Go.Operand.tmp 78), type := 3, pos := "law.go:111", after := #[{ on := 0, ground := Go.Ground.data }], guard := none }) (v := ?vDa_83) rfl (by kernel_rfl) (by kernel_rfl) (by kernel_rfl) (fun _ _ _ h => h) (Or.inl ⟨by rfl, ?hyDa_83⟩) (by assumption) ?reDa_83
              case hyDa_83 => (intro w hSw; (try dsimp only at hSw); go_simp; try with_reducible rfl)
              try simp only [Act.put, List.setIfInBounds_toArray, List.set_cons_zero, List.set_cons_succ]
              refine wpAnyH_take (i := 2) (oi := { dst := some 80, op := Go.Op.move (Go.Operand.tmp 0), type := 45, pos := "law.go:111", after := #[], guard := none }) (v := ?vDa_84) rfl (by kernel_rfl) (by kernel_rfl) (by kernel_rfl) (fun _ _ _ h => h) (Or.inl ⟨by rfl, ?hyDa_84⟩) (by assumption) ?reDa_84
              case hyDa_84 => (intro w hSw; (try dsimp only at hSw); go_simp; try with_reducible rfl)
              try simp only [Act.put, List.setIfInBounds_toArray, List.set_cons_zero, List.set_cons_succ]
              refine wpAnyH_take (i := 3) (oi := { dst := some 81, op := Go.Op.fieldAddr 71 (Go.Operand.tmp 14) 0, type := 0, pos := "law.go:111", after := #[], guard := none }) (v := ?vDa_85) rfl (by kernel_rfl) (by kernel_rfl) (by kernel_rfl) (fun _ _ _ h => h) (Or.inl ⟨by rfl, ?hyDa_85⟩) (by assumption) ?reDa_85
              case hyDa_85 => (intro w hSw; (try dsimp only at hSw); go_simp; try with_reducible rfl)
              try simp only [Act.put, List.setIfInBounds_toArray, List.set_cons_zero, List.set_cons_succ]
              refine wpAnyH_take (i := 4) (oi := { dst := some 82, op := Go.Op.load 3 (Go.Operand.tmp 81), type := 3, pos := "law.go:111", after := #[{ on := 3, ground := Go.Ground.data }], guard := none }) (v := ?vDa_86) rfl (by kernel_rfl) (by kernel_rfl) (by kernel_rfl) (fun _ _ _ h => h) (Or.inl ⟨by rfl, ?hyDa_86⟩) (by assumption) ?reDa_86
              case hyDa_86 => (intro w hSw; (try dsimp only at hSw); go_simp; try with_reducible rfl)
              try simp only [Act.put, List.setIfInBounds_toArray, List.set_cons_zero, List.set_cons_succ]
              refine wpAnyH_take (i := 5) (oi := { dst := some 83, op := Go.Op.indexAddr 45 (Go.Operand.tmp 80) (Go.Operand.tmp 82), type := 0, pos := "law.go:111", after := #[{ on := 2, ground := Go.Ground.data }, { on := 4, ground := Go.Ground.data }], guard := none }) (v := ?vDa_87) rfl (by kernel_rfl) (by kernel_rfl) (by kernel_rfl) (fun _ _ _ h => h) (Or.inl ⟨by rfl, ?hyDa_87⟩) (by assumption) ?reDa_87
              case hyDa_87 => (intro w hSw; (try dsimp only at hSw); go_simp; try with_reducible rfl)
              try simp only [Act.put, List.setIfInBounds_toArray, List.set_cons_zero, List.set_cons_succ]
              refine wpAnyH_take (i := 6) (oi := { dst := some 84, op := Go.Op.load 23 (Go.Operand.tmp 83), type := 23, pos := "law.go:111", after := #[{ on := 5, ground := Go.Ground.data }], guard := none }) (v := ?vDa_88) rfl (by kernel_rfl) (by kernel_rfl) (by kernel_rfl) (fun _ _ _ h => h) (Or.inl ⟨by rfl, ?hyDa_88⟩) (by assumption) ?reDa_88
              case hyDa_88 => (intro w hSw; (try dsimp only at hSw); go_simp; try with_reducible rfl)
              try simp only [Act.put, List.setIfInBounds_toArray, List.set_cons_zero, List.set_cons_succ]
              refine wpAnyH_take (i := 7) (oi := { dst := some 85, op := Go.Op.call { callee := Go.Callee.builtin Go.Builtin.len, args := #[Go.Operand.tmp 84], argTypes := #[23] }, type := 3, pos := "law.go:111", after := #[{ on := 6, ground := Go.Ground.data }], guard := none }) (v := ?vDa_89) rfl (by kernel_rfl) (by kernel_rfl) (by kernel_rfl) (fun _ _ _ h => h) (Or.inl ⟨by rfl, ?hyDa_89⟩) (by assumption) ?reDa_89
              case hyDa_89 => (intro w hSw; (try dsimp only at hSw); go_simp; try with_reducible rfl)
              try simp only [Act.put, List.setIfInBounds_toArray, List.set_cons_zero, List.set_cons_succ]
              refine wpAnyH_take (i := 8) (oi := { dst := some 86, op := Go.Op.binOp Go.BinOp.add 3 (Go.Operand.tmp 79) (Go.Operand.tmp 85) 3, type := 3, pos := "law.go:111", after := #[{ on := 1, ground := Go.Ground.data }, { on := 7, ground := Go.Ground.data }], guard := none }) (v := ?vDa_90) rfl (by kernel_rfl) (by kernel_rfl) (by kernel_rfl) (fun _ _ _ h => h) (Or.inl ⟨by rfl, ?hyDa_90⟩) (by assumption) ?reDa_90
              case hyDa_90 => (intro w hSw; (try dsimp only at hSw); go_simp; try with_reducible rfl)
              try simp only [Act.put, List.setIfInBounds_toArray, List.set_cons_zero, List.set_cons_succ]
              refine wpAnyH_take (i := 9) (oi := { dst := some 15, op := Go.Op.assign (Go.Operand.tmp 86), type := 3, pos := "law.go:111", after := #[{ on := 8, ground := Go.Ground.data }, { on := 0, ground := Go.Ground.phase }, { on := 1, ground := Go.Ground.phase }, { on := 2, ground := Go.Ground.phase }, { on := 3, ground := Go.Ground.phase }, { on := 4, ground := Go.Ground.phase }, { on := 5, ground := Go.Ground.phase }, { on := 6, ground := Go.Ground.phase }, { on := 7, ground := Go.Ground.phase }, { on := 8, ground := Go.Ground.phase }], guard := none }) (v := ?vDa_91) rfl (by kernel_rfl) (by kernel_rfl) (by kernel_rfl) (fun _ _ _ h => h) (Or.inl ⟨by rfl, ?hyDa_91⟩) (by assumption) ?reDa_91
              case hyDa_91 => (intro w hSw; (try dsimp only at hSw); go_simp; try with_reducible rfl)
              try simp only [Act.put, List.setIfInBounds_toArray, List.set_cons_zero, List.set_cons_succ]
              refine wpAnyH_done (by kernel_rfl) ?dnDa_92 _
              go_wp2_with fail
              have hcs := cnt_step (inA l ta.length) hlt
              have hpv : inA l ta.length F[i] = false := by rw [HFI.out]; exact decide_eq_false (by show ¬ ((k : Int) + (((l.getD (p : Int).toNat []).length : Nat) : Int) ≤ _); rw [HGD.out]; omega)
              rw [hpv] at hcs
              simp only [if_true, if_false, Bool.false_eq_true] at hcs
              have hnj : nJ l ta.length F (i + 1) = n := by rw [HNJ.out]; exact hcs
              have hbe : Go.RowKit.Below w9.heap.size w9 W1 := HW1.out.2
              have hysn : ys = yJ ta.length F (i + 1) := by rw [HYJ.out]; unfold yJ; rw [drop_step _ _ hlt, if_neg (by rw [HFI.out]; unfold inB; simp; omega)]; rfl
              exact ⟨⟨i + 1, n, ys, Ay, cy, by go_num, by omega, by rfl, hnj.symm, rfl, hysn, HYC.out.1, HYC.out.2, (by repeat (first | exact hbe | apply below_drew1 | apply pw_below_drewN))⟩, by simp only [intOf]; omega⟩
        · have il : ¬ ((i : Int) < (F.length : Int)) := by omega
          have hie : i = F.length := by omega
          have hn2 : n = X.length := by rw [HNJ.out, hie, nJ, List.take_length, HFe.out.2.1]
          have hy2 : ys = [] := by rw [HYJ.out, hie, yJ, List.drop_length]; rfl
          subst hn2
          subst hy2
          clear hie
          go_wp2
          go_ret
          exact ⟨by first | rfl | simp, (by repeat (first | (with_reducible first | exact HB.out | apply below_alloc | apply pw_below_drewN | apply below_drew1) | exact HB.out))⟩
end Go.Proofs.Ytgfmplhpoblleaa.FailW
