/- FailYc. -/
import Derived.Test.YtgfmplhpoblleaaFK15
section
/- The statement FailLinks, walked. -/
namespace Go.Proofs.Ytgfmplhpoblleaa.FailW
open Go.RowKit Go.Shelf Go.Lib Go.Proofs Go.Proofs.YtgfmplhpoblleaaW.PrintWords Go.Proofs.YtgfmplhpoblleaaW.PrintLast Go.Proofs.YtgfmplhpoblleaaW.PrintMore Go.Proofs.Ytgfmplhpoblleaa.PRank Go.Proofs.Ytgfmplhpoblleaa.PFB Go.Proofs.Ytgfmplhpoblleaa.RankW Go.Proofs.Ytgfmplhpoblleaa.SortOwn Go.Proofs.Ytgfmplhpoblleaa
open Go.Proofs.Ytgfmplhpoblleaa.Cmps hiding dedup
set_option linter.unusedVariables false
set_option linter.unusedSimpArgs false

theorem mfail_any {w : World} {l : List (List Int)} {t p : Addr} {s : St} (h : Made w l t p s) (hl : In 20 l) (n v : Int) (hv : v = failRef (textsOf l) n) :
    Calls Try.prog 43 #[.pointer (some p), .int .i64 n] w fun e w' => e = .returned (.int .i64 v) ∧ Grows w w' := by
  have h1 := fail_calls' p t (trieOf l) s.fl s.ol n w h.lk
  rw [failOf_any (kl_trie hl).1 h.fin n, ← hv] at h1
  exact h1
theorem mout_any {w : World} {l : List (List Int)} {t p : Addr} {s : St} (h : Made w l t p s) (hl : In 20 l) (n v : Int) (hv : v = outRef (textsOf l) l n) :
    Calls Try.prog 45 #[.pointer (some p), .int .i64 n] w fun e w' => e = .returned (.int .i64 v) ∧ Grows w w' := by
  have h1 := out_calls' p t (trieOf l) s.fl s.ol n w (h.fin.oll.trans h.fin.fll.symm) h.lk
  rw [outOf_any (trie_tr l) h.fin n, ← hv] at h1
  exact h1
theorem mpat_at {w : World} {l : List (List Int)} {t p : Addr} {s : St} (h : Made w l t p s) (hl : In 20 l) (hne : l.any (·.isEmpty) = false) {m : Nat} {u : List Int} (hu : (textsOf l)[m]? = some u) :
    Calls Try.prog 47 #[.pointer (some p), .int .i64 m] w fun e w' => ∃ v, e = .returned v ∧ Kd.R (Kd.int .i64) 3 w' w.heap.size (fun _ => True) v (patT 0 l u) ∧ Go.RowKit.Below w.heap.size w w' := by
  obtain ⟨hS, hG, hx, hB, hlen⟩ := kl_trie hl
  have hm := List.mem_of_getElem? hu
  have hul := hB.2 u hm
  have h1 := patterns_calls p t (trieOf l) s.fl s.ol (m : Int) (u.length + 1) (sufT (textsOf l) l (u.length + 1) u) w h.lk hG (h.fin.oll.trans h.fin.fll.symm) (by omega) (by
    rw [outOf_eq (trie_tr l) h.fin hu]
    have := pat_l (trie_tr l) h.fin (u.length + 1) u [] (u.length + 1) hm (by omega) (Nat.le_refl _)
    rw [List.nil_append] at this
    exact this)
  rw [suf_patT (textsOf_mem l) (fun p hp => ?_) hS.nil hm _ (by omega)] at h1
  · exact h1
  · rintro rfl
    rw [List.any_eq_false] at hne
    exact hne [] hp rfl
theorem mdepth_n {w : World} {l : List (List Int)} {t p : Addr} {s : St} (h : Made w l t p s) (hl : In 20 l) {m : Nat} {u : List Int} (hu : (textsOf l)[m]? = some u) (d : Nat) (hd : d = u.length) :
    Calls Try.prog 41 #[.pointer (some t), .int .i64 m] w fun e w' => e = .returned (.int .i64 (d : Int)) ∧ Grows w w' := by
  subst hd
  exact mdepth_at h hl hu
/-- Two neighbours of the order. -/
theorem od_two {l : List (List Int)} (hl : In 20 l) {s : St} (hF : LFin (trieOf l) (textsOf l) s) {od : List Int} (hp : od.Perm s.od) (hs : SegS (cmpD (trieOf l)) od 0 od.length) {j : Nat} (hj : j + 1 < od.length) :
    ∃ (a b : Nat) (u v : List Int), od[j]? = some (a : Int) ∧ od[j + 1]? = some (b : Int) ∧ (textsOf l)[a]? = some u ∧ (textsOf l)[b]? = some v ∧ (u.length < v.length ∨ u.length = v.length ∧ a < b) := by
  obtain ⟨hS, hG, hx, hB, hlen⟩ := kl_trie hl
  have hja : j < od.length := by omega
  obtain ⟨a, ea, ha⟩ := hF.mem od[j] (hp.mem_iff.1 (List.getElem_mem _))
  obtain ⟨b, eb, hb⟩ := hF.mem od[j + 1] (hp.mem_iff.1 (List.getElem_mem _))
  have hat : a < (textsOf l).length := by omega
  have hbt : b < (textsOf l).length := by omega
  refine ⟨a, b, (textsOf l)[a], (textsOf l)[b], by rw [List.getElem?_eq_getElem hja, ea], by rw [List.getElem?_eq_getElem hj, eb], List.getElem?_eq_getElem hat, List.getElem?_eq_getElem hbt, ?_⟩
  have h1 := hs j (j + 1) a b (Nat.zero_le _) (by omega) (by omega) (by rw [List.getElem?_eq_getElem hja, ea]) (by rw [List.getElem?_eq_getElem hj, eb])
  have hnd : od.Nodup := hp.nodup_iff.2 hF.nd
  have hne : a ≠ b := by
    intro e
    have := (List.getElem_inj (h₀ := hja) (h₁ := hj) hnd).1 (by rw [ea, eb, e])
    omega
  have d1 := hS.depth a _ _ (List.getElem?_eq_getElem ha) (List.getElem?_eq_getElem hat)
  have d2 := hS.depth b _ _ (List.getElem?_eq_getElem hb) (List.getElem?_eq_getElem hbt)
  have s1 := hS.short (List.getElem_mem hat)
  have s2 := hS.short (List.getElem_mem hbt)
  unfold Le cmpD at h1
  rw [nodeOf_nat ha, nodeOf_nat hb, d1, d2] at h1
  have e1 : IntKind.i64.wrap (((textsOf l)[b].length : Int) - ((textsOf l)[a].length : Int)) = ((textsOf l)[b].length : Int) - ((textsOf l)[a].length : Int) := IntWalk.i64_in _ (by omega)
  have e2 : wrap64 ((b : Int) - (a : Int)) = (b : Int) - a := RefS.r_wrap _ (by omega) (by omega)
  rw [e1, e2] at h1
  split at h1 <;> omega
theorem patT_len (s : List Int) : ∀ (l : List (List Int)) (k : Nat), (patT k l s).length ≤ l.length
  | [], k => Nat.le_refl _
  | p :: r, k => by
    rw [patT, List.length_append, List.length_cons]
    have := patT_len s r (k + 1)
    have h2 : (if p <:+ s then [(k : Int)] else []).length ≤ 1 := by split <;> simp
    omega
theorem pat_len {l : List (List Int)} (hl : In 20 l) (u : List Int) : (patT 0 l u).length ≤ 1000000 := by
  have h := patT_len u l 0
  have := hl.len
  omega
set_option maxHeartbeats 16000000 in
set_option maxRecDepth 100000 in
theorem links_calls (A : Option Addr) (c : Nat) (l : List (List Int)) (o : Int) (w : World) (hV : Kd.V (Kd.slice 3 (Kd.int .i64)) 23 w w.heap.size (fun _ => True) (.slice A l.length c) l) :
    Calls Try.prog 11 #[.slice A l.length c, .int .i64 o] w fun e w' => e = .returned (.bool true) ∧ Go.RowKit.Below w.heap.size w w' := by
  have HV := Aside0.mk hV
  have HB := Aside0.mk (Go.RowKit.Below.refl w.heap.size w)
  clear hV
  obtain ⟨b, hb, hbx⟩ := small_f l 10 (by omega) 6000000 (by omega)
  have HS := Aside0.mk hb
  clear hb
  cases b with
  | false =>
    clear hbx
    go_enter Try.func11, Try.ntmps11
    go_wp2_with (first | (go_at_call 33; refine (awake23_calls _).mono ?_; rintro e w2 ⟨rfl, hb2⟩; have n_ := Aside0.mk (below_step (by repeat (first | (with_reducible first | exact HB.out | apply below_alloc | apply pw_below_drewN | apply below_drew1) | exact HB.out)) hb2); clear HB; have HB := n_; clear n_; clear hb2) | (go_at_call 34; refine (paronymref22_Small.calls 6000000 A c l 10 false _ (Kd.V_reads' (Kd.V_below HV.out (by repeat (first | (with_reducible first | exact HB.out | apply below_alloc | apply pw_below_drewN | apply below_drew1) | exact HB.out)))).2.2 (Kd.V_reads' HV.out).2.1 HS.out).mono ?_; rintro e w3 ⟨rfl, ⟨nd, rfl⟩⟩))
    go_ret
    exact ⟨rfl, (by repeat (first | (with_reducible first | exact HB.out | apply below_alloc | apply pw_below_drewN | apply below_drew1) | exact HB.out))⟩
  | true =>
    have hIn : In 20 l := In.mono ⟨(hbx rfl).1, (hbx rfl).2⟩ (by omega)
    have HIn := Aside0.mk hIn
    have he := empty_f l (by have := hIn.len; omega) 6000000 (by omega)
    clear hbx
    obtain ⟨b, hb⟩ : ∃ b, l.any (·.isEmpty) = b := ⟨_, rfl⟩
    rw [hb] at he
    have HE := Aside0.mk he
    have HEm := Aside0.mk hb
    clear he hb
    cases b with
    | true =>
      clear hIn
      go_enter Try.func11, Try.ntmps11
      go_wp2_with (first | (go_at_call 33; refine (awake23_calls _).mono ?_; rintro e w2 ⟨rfl, hb2⟩; have n_ := Aside0.mk (below_step (by repeat (first | (with_reducible first | exact HB.out | apply below_alloc | apply pw_below_drewN | apply below_drew1) | exact HB.out)) hb2); clear HB; have HB := n_; clear n_; clear hb2) | (go_at_call 34; refine (paronymref22_Small.calls 6000000 A c l 10 true _ (Kd.V_reads' (Kd.V_below HV.out (by repeat (first | (with_reducible first | exact HB.out | apply below_alloc | apply pw_below_drewN | apply below_drew1) | exact HB.out)))).2.2 (Kd.V_reads' HV.out).2.1 HS.out).mono ?_; rintro e w3 ⟨rfl, ⟨nd, rfl⟩⟩) | (go_at_call 35; refine (paronymref22_Empty.calls 6000000 A c l true _ (Kd.V_reads' (Kd.V_below HV.out (by repeat (first | (with_reducible first | exact HB.out | apply below_alloc | apply pw_below_drewN | apply below_drew1) | exact HB.out)))).2.2 (Kd.V_reads' HV.out).2.1 HE.out).mono ?_; rintro e w3 ⟨rfl, ⟨nd, rfl⟩⟩))
      go_ret
      exact ⟨rfl, (by repeat (first | (with_reducible first | exact HB.out | apply below_alloc | apply pw_below_drewN | apply below_drew1) | exact HB.out))⟩
    | false =>
      obtain ⟨s, hs, hF⟩ := links_ok (kl_trie hIn).1
      obtain ⟨N, hN⟩ : ∃ N, N = (textsOf l).length := ⟨_, rfl⟩
      have HL := Aside0.mk (And.intro hs hF)
      obtain ⟨fo, hfo⟩ : ∃ fo, fo = failRef (textsOf l) o := ⟨_, rfl⟩
      obtain ⟨oo, hoo⟩ : ∃ oo, oo = outRef (textsOf l) l o := ⟨_, rfl⟩
      have HFO := Aside0.mk (And.intro hfo hoo)
      clear hs hF hIn hfo hoo
      go_enter Try.func11, Try.ntmps11
      go_wp2_with (first | (go_at_call 33; refine (awake23_calls _).mono ?_; rintro e w2 ⟨rfl, hb2⟩; have n_ := Aside0.mk (below_step (by repeat (first | (with_reducible first | exact HB.out | apply below_alloc | apply pw_below_drewN | apply below_drew1) | exact HB.out)) hb2); clear HB; have HB := n_; clear n_; clear hb2) | (go_at_call 34; refine (paronymref22_Small.calls 6000000 A c l 10 true _ (Kd.V_reads' (Kd.V_below HV.out (by repeat (first | (with_reducible first | exact HB.out | apply below_alloc | apply pw_below_drewN | apply below_drew1) | exact HB.out)))).2.2 (Kd.V_reads' HV.out).2.1 HS.out).mono ?_; rintro e w3 ⟨rfl, ⟨nd, rfl⟩⟩) | (go_at_call 35; refine (paronymref22_Empty.calls 6000000 A c l false _ (Kd.V_reads' (Kd.V_below HV.out (by repeat (first | (with_reducible first | exact HB.out | apply below_alloc | apply pw_below_drewN | apply below_drew1) | exact HB.out)))).2.2 (Kd.V_reads' HV.out).2.1 HE.out).mono ?_; rintro e w3 ⟨rfl, ⟨nd, rfl⟩⟩) | (go_at_call 36; refine (new_calls A c l _ (Kd.V_reads' (Kd.V_below HV.out (by repeat (first | (with_reducible first | exact HB.out | apply below_alloc | apply pw_below_drewN | apply below_drew1) | exact HB.out)))).2.2 (by have := HIn.out.len; omega) (by have := HIn.out.bnd.2; omega) HEm.out).mono ?_; rintro e w4 ⟨g, rfl, hT, hb⟩; have HT := Aside0.mk hT; have n_ := Aside0.mk (below_step (by repeat (first | (with_reducible first | exact HB.out | apply below_alloc | apply pw_below_drewN | apply below_drew1) | exact HB.out)) hb); clear HB; have HB := n_; clear n_; clear hT hb) | (go_at_call 37; refine (fnew_calls _ ⟨g, 0, none⟩ (trieOf l) (textsOf l) s HT.out (kl_trie HIn.out).1 (kl_trie HIn.out).2.1 (by have := (kl_trie HIn.out).2.2.1; omega) HL.out.1).mono ?_; rintro e w5 ⟨p, od', rfl, h1, h2, h3, hb⟩; have HOD := Aside0.mk (And.intro h2 h3); have HM := Aside0.mk (show Made w5 l ⟨g, 0, none⟩ ⟨p, 0, none⟩ s from ⟨HT.out.below hb, h1, HL.out.2⟩); have n_ := Aside0.mk (below_step (by repeat (first | (with_reducible first | exact HB.out | apply below_alloc | apply pw_below_drewN | apply below_drew1) | exact HB.out)) hb); clear HB; have HB := n_; clear n_; clear HT h1 h2 h3 hb) | (go_at_call 38; refine (paronymref22_New.calls 6000000 (fun _ => True) A c l (textsOf l) w5 (Kd.V_below HV.out (by repeat (first | (with_reducible first | exact HB.out | apply below_alloc | apply pw_below_drewN | apply below_drew1) | exact HB.out))) (rnew_f HIn.out.bnd.1 (by have := HIn.out.bnd.2; omega) (by omega))).mono ?_; rintro e w6 ⟨v, rfl, hN, hb⟩; obtain ⟨A6, c6, rfl, hl6, hC6⟩ := Kd.N_reads hN; have HC6 := Aside0.mk (And.intro hl6 hC6); have m_ := Aside0.mk (HM.out.below hb); clear HM; have HM := m_; have n_ := Aside0.mk (below_step (by repeat (first | (with_reducible first | exact HB.out | apply below_alloc | apply pw_below_drewN | apply below_drew1) | exact HB.out)) hb); clear HB; have HB := n_; clear n_; have o_ := Aside0.mk (And.intro (HOD.out.1.below hb) HOD.out.2); clear HOD; have HOD := o_; clear o_ m_ hb hN hl6 hC6) | (go_at_call 42; go_loud (refine (order_calls ⟨p, 0, none⟩ od' _ (HOD.out.1) (by have h_ := HOD.out.2.1.length_eq; have h2_ := od_len HL.out.2; have h3_ := (kl_trie HIn.out).2.2.1; omega)).mono ?_); rintro e w7 ⟨v7, rfl, hR, hb⟩; obtain ⟨A7, c7, rfl, hl7, hC7⟩ := Kd.R_reads hR; have HC7 := Aside0.mk (And.intro hl7 hC7); have m_ := Aside0.mk (HM.out.below hb); clear HM; have HM := m_; clear m_; have m_ := Aside0.mk (And.intro HC6.out.1 (Kd.C_below HC6.out.2 hb)); clear HC6; have HC6 := m_; clear m_; have n_ := Aside0.mk (below_step (by repeat (first | (with_reducible first | exact HB.out | apply below_alloc | apply pw_below_drewN | apply below_drew1) | exact HB.out)) hb); clear HB; have HB := n_; clear n_; have hlen_ : od'.length = (textsOf l).length := (by have h_ := HOD.out.2.1.length_eq; have h2_ := od_len HL.out.2; have h3_ := (kl_trie HIn.out).2.2.2.2; omega); clear hb hR hl7 hC7) | (go_at_call 43; go_loud (refine (mfail_any HM.out HIn.out o fo HFO.out.1).mono ?_); rintro e w8 ⟨rfl, hg⟩; have m_ := Aside0.mk (HM.out.below hg.below); clear HM; have HM := m_; clear m_; have m_ := Aside0.mk (And.intro HC6.out.1 (Kd.C_below HC6.out.2 hg.below)); clear HC6; have HC6 := m_; clear m_; have m_ := Aside0.mk (And.intro HC7.out.1 (Kd.C_below HC7.out.2 hg.below)); clear HC7; have HC7 := m_; clear m_; have n_ := Aside0.mk (below_step (by repeat (first | (with_reducible first | exact HB.out | apply below_alloc | apply pw_below_drewN | apply below_drew1) | exact HB.out)) hg.below); clear HB; have HB := n_; clear n_; clear hg) | (go_at_call 44; go_loud (refine (paronymref23_Fail.calls 6000000 A6 c6 (textsOf l) o fo _ HC6.out.2 HC6.out.1 (by rw [HFO.out.1]; exact rfail_any (kl_trie HIn.out).1 (kl_trie HIn.out).2.2.2.1 o (by omega))).mono ?_); rintro e w8 ⟨rfl, ⟨nd, rfl⟩⟩; have m_ := Aside0.mk (HM.out.below (pw_below_drewN (Below.refl _ _) nd)); clear HM; have HM := m_; clear m_; have m_ := Aside0.mk (And.intro HC6.out.1 (Kd.C_drewN HC6.out.2 nd)); clear HC6; have HC6 := m_; clear m_; have m_ := Aside0.mk (And.intro HC7.out.1 (Kd.C_drewN HC7.out.2 nd)); clear HC7; have HC7 := m_; clear m_; have m_ := Aside0.mk (pw_below_drewN HB.out nd); clear HB; have HB := m_; clear m_) | (go_at_call 45; go_loud (refine (mout_any HM.out HIn.out o oo HFO.out.2).mono ?_); rintro e w8 ⟨rfl, hg⟩; have m_ := Aside0.mk (HM.out.below hg.below); clear HM; have HM := m_; clear m_; have m_ := Aside0.mk (And.intro HC6.out.1 (Kd.C_below HC6.out.2 hg.below)); clear HC6; have HC6 := m_; clear m_; have m_ := Aside0.mk (And.intro HC7.out.1 (Kd.C_below HC7.out.2 hg.below)); clear HC7; have HC7 := m_; clear m_; have n_ := Aside0.mk (below_step (by repeat (first | (with_reducible first | exact HB.out | apply below_alloc | apply pw_below_drewN | apply below_drew1) | exact HB.out)) hg.below); clear HB; have HB := n_; clear n_; clear hg) | (go_at_call 46; go_loud (refine (paronymref23_Out.calls 6000000 A c l A6 c6 (textsOf l) o oo _ (Kd.V_reads' (Kd.V_below HV.out (by repeat (first | (with_reducible first | exact HB.out | apply below_alloc | apply pw_below_drewN | apply below_drew1) | exact HB.out)))).2.2 (Kd.V_reads' HV.out).2.1 HC6.out.2 HC6.out.1 (by rw [HFO.out.2]; exact rout_f (kl_trie HIn.out).1 (kl_trie HIn.out).2.2.2.1 HIn.out.bnd.1 o (by omega))).mono ?_); rintro e w8 ⟨rfl, hb⟩; have m_ := Aside0.mk (HM.out.below hb); clear HM; have HM := m_; clear m_; have m_ := Aside0.mk (And.intro HC6.out.1 (Kd.C_below HC6.out.2 hb)); clear HC6; have HC6 := m_; clear m_; have m_ := Aside0.mk (And.intro HC7.out.1 (Kd.C_below HC7.out.2 hb)); clear HC7; have HC7 := m_; clear m_; have n_ := Aside0.mk (below_step (by repeat (first | (with_reducible first | exact HB.out | apply below_alloc | apply pw_below_drewN | apply below_drew1) | exact HB.out)) hb); clear HB; have HB := n_; clear n_; clear hb))
      have HX := Aside0.mk (And.intro HM.out (And.intro HC6.out (And.intro HC7.out HB.out)))
      have HLEN := Aside0.mk hlen_
      clear HM HC6 HC7 HB
      have hN20 := (kl_trie HIn.out).2.2.2.1.1
      go_loopw [10] (fun v10 wr => ∃ i : Nat, v10 = .int .i64 i ∧ i ≤ (textsOf l).length ∧ Made wr l ⟨g, 0, none⟩ ⟨p, 0, none⟩ s ∧ ((textsOf l).length ≤ c6 ∧ Kd.C (Kd.slice 3 (Kd.int .i64)) wr A6 (textsOf l).length (textsOf l)) ∧ (od'.length ≤ c7 ∧ Kd.C (Kd.int .i64) wr A7 od'.length od') ∧ Go.RowKit.Below w.heap.size w wr) (fun v10 wr => (textsOf l).length - (intOf v10).toNat)
      case atStart => exact ⟨0, rfl, Nat.zero_le _, HX.out.1, HX.out.2.1, HX.out.2.2.1, HX.out.2.2.2⟩
      case round =>
        obtain ⟨i, rfl, hi, hM, h6, h7, hB⟩ := hrel
        have HM := Aside0.mk hM
        have HC6 := Aside0.mk h6
        have HC7 := Aside0.mk h7
        have HW := Aside0.mk hB
        have HVr := Aside0.mk (Kd.V_below HV.out hB)
        have HB := Aside0.mk (Go.RowKit.Below.refl wr.heap.size wr)
        by_cases hlt : i < (textsOf l).length
        · obtain ⟨ad6, A6i, c6i, rfl, hx6, hl6, hi6⟩ := kRows_at h6.2 i hlt
          obtain ⟨u, hu⟩ : ∃ u, u = (textsOf l)[i] := ⟨_, rfl⟩
          have hut : (textsOf l)[i]? = some u := by rw [hu]; exact List.getElem?_eq_getElem hlt
          rw [← hu] at hx6 hl6 hi6
          have HCi := Aside0.mk (And.intro hl6 hi6)
          obtain ⟨q, hq⟩ : ∃ q, q = (textsOf l).idxOf (lngT (textsOf l) u.tail) := ⟨_, rfl⟩
          have hqf : (q : Int) = failRef (textsOf l) (i : Int) := by rw [failRef_at hut, hq]
          have hqt : (textsOf l)[q]? = some (lngT (textsOf l) u.tail) := by rw [hq]; exact at_idx (lngT_mem (kl_trie HIn.out).1.nil _)
          obtain ⟨dq, hdq⟩ : ∃ dq, dq = (lngT (textsOf l) u.tail).length := ⟨_, rfl⟩
          obtain ⟨du, hdu⟩ : ∃ du, du = u.length := ⟨_, rfl⟩
          obtain ⟨ov, hov⟩ : ∃ ov, ov = outRef (textsOf l) l (i : Int) := ⟨_, rfl⟩
          have hdd : 0 < i → dq < du := fun h0 => by
            have hne : u ≠ [] := fun e => by
              subst e
              have := nodup_at (kl_trie HIn.out).1.nd hut (kl_trie HIn.out).1.root
              omega
            have := lng_tail_lt (textsOf l) hne
            omega
          have HQ := Aside0.mk (And.intro hqf (And.intro hqt (And.intro hdq (And.intro hut (And.intro hdu hov)))))
          have il : (i : Int) < ((textsOf l).length : Int) := by omega
          have e3 : IntKind.i64.wrap ((i : Int) + 1) = (i : Int) + 1 := IntWalk.i64_in _ (by omega)
          clear hqf hqt hdq hut hdu hov hq hu hl6 hi6 hM h6 hB
          by_cases h0 : 0 < i
          · have d0 : (0 : Int) < (i : Int) := by omega
            have dd : ¬ ((du : Int) ≤ (dq : Int)) := by have := hdd h0; omega
            have ddn : ¬ (du ≤ dq) := by have := hdd h0; omega
            have ddl : dq < du := hdd h0
            obtain ⟨j, hj⟩ : ∃ j, i = j + 1 := ⟨i - 1, by omega⟩
            have ej : IntKind.i64.wrap ((i : Int) - 1) = (j : Int) := by rw [IntWalk.i64_in _ (by omega)]; omega
            obtain ⟨a, b, ua, ub, ha, hb, hau, hbu, hab⟩ := od_two HIn.out HL.out.2 HOD.out.2.1 HOD.out.2.2 (j := j) (by have := HLEN.out; omega)
            have hja : j < od'.length := by have := HLEN.out; omega
            have hia : i < od'.length := by have := HLEN.out; omega
            obtain ⟨ad7, e7, hxa⟩ := int_at h7.2 j hja
            obtain ⟨ad7', e7', hxb⟩ := int_at h7.2 i hia
            subst e7
            obtain rfl : ad7 = ad7' := by injection e7'
            rw [← hj, List.getElem?_eq_getElem hia] at hb
            rw [List.getElem?_eq_getElem hja] at ha
            rw [Option.some.inj ha] at hxa
            rw [Option.some.inj hb] at hxb
            obtain ⟨dpu, hdpu⟩ : ∃ d, d = ua.length := ⟨_, rfl⟩
            obtain ⟨dpv, hdpv⟩ : ∃ d, d = ub.length := ⟨_, rfl⟩
            rw [← hdpu, ← hdpv] at hab
            have HT := Aside0.mk (And.intro hau (And.intro hbu (And.intro hdpu hdpv)))
            have jl : (j : Int) < (od'.length : Int) := by omega
            have ilo : (i : Int) < (od'.length : Int) := by omega
            have d9 : ¬ ((dpv : Int) < (dpu : Int)) := by omega
            have d9n : ¬ (dpv < dpu) := by omega
            have jl2 : (j : Int) < ((textsOf l).length : Int) := by have := HLEN.out; omega
            have jln : j < (textsOf l).length := by have := HLEN.out; omega
            clear hau hbu hdpu hdpv ha hb e7' hj hja hia hdd h7
            go_wp2_with (first | (go_at_call 43; refine (mfail_any (HM.out.below (by repeat (first | (with_reducible first | exact HB.out | apply below_alloc | apply pw_below_drewN | apply below_drew1) | exact HB.out))) HIn.out (i : Int) (q : Int) HQ.out.1).mono ?_; rintro e w8 ⟨rfl, hg⟩; have n_ := Aside0.mk (below_step (by repeat (first | (with_reducible first | exact HB.out | apply below_alloc | apply pw_below_drewN | apply below_drew1) | exact HB.out)) hg.below); clear HB; have HB := n_; clear n_; clear hg))
            refine wp_region_held_drew (S := (fun w' => w'.cell? (ad6.add i) = some (.slice A6i u.length c6i))) (by kernel_rfl) ?s0z (fun hHeld => ?b0z)
            case s0z => (first | exact hx6 | assumption | exact cell_below HB.out hx6 | exact cell_below (by repeat (first | (with_reducible first | exact HB.out | apply below_alloc | apply pw_below_drewN | apply below_drew1) | exact HB.out)) hx6 | go_keep)
            refine wpAnyH_take (i := 0) (oi := { dst := some 74, op := Go.Op.move (Go.Operand.tmp 11), type := 3, pos := "law.go:36", after := #[], guard := none }) (v := ?vz_90) rfl (by kernel_rfl) (by kernel_rfl) (by kernel_rfl) (fun _ _ _ h => h) (Or.inl ⟨by rfl, ?hyz_90⟩) (by assumption) ?rez_90
            case hyz_90 => (intro w hSw; (try dsimp only at hSw); go_simp; try with_reducible rfl)
            try simp only [Act.put, List.setIfInBounds_toArray, List.set_cons_zero, List.set_cons_succ]
            refine wpAnyH_take (i := 1) (oi := { dst := some 75, op := Go.Op.move (Go.Operand.tmp 8), type := 45, pos := "law.go:36", after := #[], guard := none }) (v := ?vz_91) rfl (by kernel_rfl) (by kernel_rfl) (by kernel_rfl) (fun _ _ _ h => h) (Or.inl ⟨by rfl, ?hyz_91⟩) (by assumption) ?rez_91
            case hyz_91 => (intro w hSw; (try dsimp only at hSw); go_simp; try with_reducible rfl)
            try simp only [Act.put, List.setIfInBounds_toArray, List.set_cons_zero, List.set_cons_succ]
            refine wpAnyH_take (i := 2) (oi := { dst := some 76, op := Go.Op.move (Go.Operand.tmp 10), type := 3, pos := "law.go:36", after := #[], guard := none }) (v := ?vz_92) rfl (by kernel_rfl) (by kernel_rfl) (by kernel_rfl) (fun _ _ _ h => h) (Or.inl ⟨by rfl, ?hyz_92⟩) (by assumption) ?rez_92
            case hyz_92 => (intro w hSw; (try dsimp only at hSw); go_simp; try with_reducible rfl)
            try simp only [Act.put, List.setIfInBounds_toArray, List.set_cons_zero, List.set_cons_succ]
            refine wpAnyH_ready (rs := [3]) (by kernel_rfl) (by simp) ?rdz_93
            refine AllReadyH.cons (o := { dst := some 77, op := Go.Op.call { callee := Go.Callee.value (Go.Operand.func 44), args := #[Go.Operand.tmp 75, Go.Operand.tmp 76], argTypes := #[45, 3] }, type := 3, pos := "law.go:36", after := #[{ on := 1, ground := Go.Ground.data }, { on := 2, ground := Go.Ground.data }], guard := none }) rfl (fun K hK => ?stz_93) AllReadyH.nil
            (go_simp; go_at_call 44; refine (paronymref23_Fail.calls 6000000 (some ad6) c6 (textsOf l) (i : Int) (q : Int) _ (Kd.C_below HC6.out.2 (by repeat (first | (with_reducible first | exact HB.out | apply below_alloc | apply pw_below_drewN | apply below_drew1) | exact HB.out))) HC6.out.1 (by rw [HQ.out.1]; exact rfail_any (kl_trie HIn.out).1 (kl_trie HIn.out).2.2.2.1 _ (by omega))).mono ?_; rintro e w8 ⟨rfl, ⟨nd, rfl⟩⟩)
            refine hK.out _ _ ?hsz_93 (fun hHeld => ?rez_93)
            case hsz_93 => (first | exact hx6 | assumption | exact cell_below HB.out hx6 | exact cell_below (by repeat (first | (with_reducible first | exact HB.out | apply below_alloc | apply pw_below_drewN | apply below_drew1) | exact HB.out)) hx6 | go_keep)
            clear hK K
            try simp only [Act.put, List.setIfInBounds_toArray, List.set_cons_zero, List.set_cons_succ]
            refine wpAnyH_take (i := 4) (oi := { dst := some 78, op := Go.Op.binOp Go.BinOp.neq 3 (Go.Operand.tmp 74) (Go.Operand.tmp 77) 3, type := 4, pos := "law.go:36", after := #[{ on := 0, ground := Go.Ground.data }, { on := 3, ground := Go.Ground.data }], guard := none }) (v := ?vz_94) rfl (by kernel_rfl) (by kernel_rfl) (by kernel_rfl) (fun _ _ _ h => h) (Or.inl ⟨by rfl, ?hyz_94⟩) (by assumption) ?rez_94
            case hyz_94 => (intro w hSw; (try dsimp only at hSw); go_simp; try with_reducible rfl)
            try simp only [Act.put, List.setIfInBounds_toArray, List.set_cons_zero, List.set_cons_succ]
            refine wpAnyH_take (i := 5) (oi := { dst := some 79, op := Go.Op.move (Go.Operand.tmp 78), type := 4, pos := "law.go:36", after := #[{ on := 4, ground := Go.Ground.data }, { on := 3, ground := Go.Ground.chain }], guard := none }) (v := ?vz_95) rfl (by kernel_rfl) (by kernel_rfl) (by kernel_rfl) (fun _ _ _ h => h) (Or.inl ⟨by rfl, ?hyz_95⟩) (by assumption) ?rez_95
            case hyz_95 => (intro w hSw; (try dsimp only at hSw); go_simp; try with_reducible rfl)
            try simp only [Act.put, List.setIfInBounds_toArray, List.set_cons_zero, List.set_cons_succ]
            refine wpAnyH_take (i := 6) (oi := { dst := some 80, op := Go.Op.move (Go.Operand.tmp 10), type := 3, pos := "law.go:36", after := #[{ on := 5, ground := Go.Ground.guard }], guard := some (5, false) }) (v := ?vz_96) rfl (by kernel_rfl) (by kernel_rfl) (by kernel_rfl) (fun _ _ _ h => h) (Or.inl ⟨by rfl, ?hyz_96⟩) (by assumption) ?rez_96
            case hyz_96 => (intro w hSw; (try dsimp only at hSw); go_simp; try with_reducible rfl)
            try simp only [Act.put, List.setIfInBounds_toArray, List.set_cons_zero, List.set_cons_succ]
            refine wpAnyH_take (i := 7) (oi := { dst := some 81, op := Go.Op.binOp Go.BinOp.gtr 3 (Go.Operand.tmp 80) (Go.Operand.const (Go.Value.int Go.IntKind.i64 0)) 3, type := 4, pos := "law.go:36", after := #[{ on := 6, ground := Go.Ground.data }, { on := 5, ground := Go.Ground.guard }], guard := some (5, false) }) (v := ?vz_97) rfl (by kernel_rfl) (by kernel_rfl) (by kernel_rfl) (fun _ _ _ h => h) (Or.inl ⟨by rfl, ?hyz_97⟩) (by assumption) ?rez_97
            case hyz_97 => (intro w hSw; (try dsimp only at hSw); go_simp; try with_reducible rfl)
            try simp only [Act.put, List.setIfInBounds_toArray, List.set_cons_zero, List.set_cons_succ]
            refine wpAnyH_take (i := 8) (oi := { dst := some 82, op := Go.Op.move (Go.Operand.tmp 81), type := 4, pos := "law.go:36", after := #[{ on := 7, ground := Go.Ground.data }, { on := 5, ground := Go.Ground.chain }, { on := 5, ground := Go.Ground.guard }], guard := some (5, false) }) (v := ?vz_98) rfl (by kernel_rfl) (by kernel_rfl) (by kernel_rfl) (fun _ _ _ h => h) (Or.inl ⟨by rfl, ?hyz_98⟩) (by assumption) ?rez_98
            case hyz_98 => (intro w hSw; (try dsimp only at hSw); go_simp; try with_reducible rfl)
            try simp only [Act.put, List.setIfInBounds_toArray, List.set_cons_zero, List.set_cons_succ]
            refine wpAnyH_take (i := 9) (oi := { dst := some 83, op := Go.Op.move (Go.Operand.tmp 5), type := 48, pos := "law.go:36", after := #[{ on := 8, ground := Go.Ground.guard }], guard := some (8, true) }) (v := ?vz_99) rfl (by kernel_rfl) (by kernel_rfl) (by kernel_rfl) (fun _ _ _ h => h) (Or.inl ⟨by rfl, ?hyz_99⟩) (by assumption) ?rez_99
            case hyz_99 => (intro w hSw; (try dsimp only at hSw); go_simp; try with_reducible rfl)
            try simp only [Act.put, List.setIfInBounds_toArray, List.set_cons_zero, List.set_cons_succ]
            refine wpAnyH_take (i := 10) (oi := { dst := some 84, op := Go.Op.move (Go.Operand.tmp 11), type := 3, pos := "law.go:36", after := #[{ on := 8, ground := Go.Ground.guard }], guard := some (8, true) }) (v := ?vz_100) rfl (by kernel_rfl) (by kernel_rfl) (by kernel_rfl) (fun _ _ _ h => h) (Or.inl ⟨by rfl, ?hyz_100⟩) (by assumption) ?rez_100
            case hyz_100 => (intro w hSw; (try dsimp only at hSw); go_simp; try with_reducible rfl)
            try simp only [Act.put, List.setIfInBounds_toArray, List.set_cons_zero, List.set_cons_succ]
            refine wpAnyH_take (i := 12) (oi := { dst := some 86, op := Go.Op.move (Go.Operand.tmp 5), type := 48, pos := "law.go:36", after := #[{ on := 8, ground := Go.Ground.guard }], guard := some (8, true) }) (v := ?vz_101) rfl (by kernel_rfl) (by kernel_rfl) (by kernel_rfl) (fun _ _ _ h => h) (Or.inl ⟨by rfl, ?hyz_101⟩) (by assumption) ?rez_101
            case hyz_101 => (intro w hSw; (try dsimp only at hSw); go_simp; try with_reducible rfl)
            try simp only [Act.put, List.setIfInBounds_toArray, List.set_cons_zero, List.set_cons_succ]
            refine wpAnyH_take (i := 13) (oi := { dst := some 87, op := Go.Op.move (Go.Operand.tmp 10), type := 3, pos := "law.go:36", after := #[{ on := 8, ground := Go.Ground.guard }], guard := some (8, true) }) (v := ?vz_102) rfl (by kernel_rfl) (by kernel_rfl) (by kernel_rfl) (fun _ _ _ h => h) (Or.inl ⟨by rfl, ?hyz_102⟩) (by assumption) ?rez_102
            case hyz_102 => (intro w hSw; (try dsimp only at hSw); go_simp; try with_reducible rfl)
            try simp only [Act.put, List.setIfInBounds_toArray, List.set_cons_zero, List.set_cons_succ]
            refine wpAnyH_ready (rs := [11]) (by kernel_rfl) (by simp) ?rdz_103
            refine AllReadyH.cons (o := { dst := some 85, op := Go.Op.call { callee := Go.Callee.value (Go.Operand.func 41), args := #[Go.Operand.tmp 83, Go.Operand.tmp 84], argTypes := #[48, 3] }, type := 3, pos := "law.go:36", after := #[{ on := 9, ground := Go.Ground.data }, { on := 10, ground := Go.Ground.data }, { on := 8, ground := Go.Ground.chain }, { on := 8, ground := Go.Ground.guard }], guard := some (8, true) }) rfl (fun K hK => ?stz_103) AllReadyH.nil
            (go_simp; go_at_call 41; refine (mdepth_n (HM.out.below (by repeat (first | (with_reducible first | exact HB.out | apply below_alloc | apply pw_below_drewN | apply below_drew1) | exact HB.out))) HIn.out HQ.out.2.1 dq HQ.out.2.2.1).mono ?_; rintro e w8 ⟨rfl, hg⟩; have n_ := Aside0.mk (below_step (by repeat (first | (with_reducible first | exact HB.out | apply below_alloc | apply pw_below_drewN | apply below_drew1) | exact HB.out)) hg.below); clear HB; have HB := n_; clear n_; clear hg)
            refine hK.out _ _ ?hsz_103 (fun hHeld => ?rez_103)
            case hsz_103 => (first | exact hx6 | assumption | exact cell_below HB.out hx6 | exact cell_below (by repeat (first | (with_reducible first | exact HB.out | apply below_alloc | apply pw_below_drewN | apply below_drew1) | exact HB.out)) hx6 | go_keep)
            clear hK K
            try simp only [Act.put, List.setIfInBounds_toArray, List.set_cons_zero, List.set_cons_succ]
            refine wpAnyH_ready (rs := [14]) (by kernel_rfl) (by simp) ?rdz_104
            refine AllReadyH.cons (o := { dst := some 88, op := Go.Op.call { callee := Go.Callee.value (Go.Operand.func 41), args := #[Go.Operand.tmp 86, Go.Operand.tmp 87], argTypes := #[48, 3] }, type := 3, pos := "law.go:36", after := #[{ on := 12, ground := Go.Ground.data }, { on := 13, ground := Go.Ground.data }, { on := 11, ground := Go.Ground.chain }, { on := 8, ground := Go.Ground.guard }], guard := some (8, true) }) rfl (fun K hK => ?stz_104) AllReadyH.nil
            (go_simp; go_at_call 41; refine (mdepth_n (HM.out.below (by repeat (first | (with_reducible first | exact HB.out | apply below_alloc | apply pw_below_drewN | apply below_drew1) | exact HB.out))) HIn.out HQ.out.2.2.2.1 du HQ.out.2.2.2.2.1).mono ?_; rintro e w8 ⟨rfl, hg⟩; have n_ := Aside0.mk (below_step (by repeat (first | (with_reducible first | exact HB.out | apply below_alloc | apply pw_below_drewN | apply below_drew1) | exact HB.out)) hg.below); clear HB; have HB := n_; clear n_; clear hg)
            refine hK.out _ _ ?hsz_104 (fun hHeld => ?rez_104)
            case hsz_104 => (first | exact hx6 | assumption | exact cell_below HB.out hx6 | exact cell_below (by repeat (first | (with_reducible first | exact HB.out | apply below_alloc | apply pw_below_drewN | apply below_drew1) | exact HB.out)) hx6 | go_keep)
            clear hK K
            try simp only [Act.put, List.setIfInBounds_toArray, List.set_cons_zero, List.set_cons_succ]
            refine wpAnyH_take (i := 15) (oi := { dst := some 89, op := Go.Op.binOp Go.BinOp.geq 3 (Go.Operand.tmp 85) (Go.Operand.tmp 88) 3, type := 4, pos := "law.go:36", after := #[{ on := 11, ground := Go.Ground.data }, { on := 14, ground := Go.Ground.data }, { on := 8, ground := Go.Ground.guard }], guard := some (8, true) }) (v := ?vz_105) rfl (by kernel_rfl) (by kernel_rfl) (by kernel_rfl) (fun _ _ _ h => h) (Or.inl ⟨by rfl, ?hyz_105⟩) (by assumption) ?rez_105
            case hyz_105 => (intro w hSw; (try dsimp only at hSw); go_simp; try with_reducible rfl)
            try simp only [Act.put, List.setIfInBounds_toArray, List.set_cons_zero, List.set_cons_succ]
            refine wpAnyH_take (i := 16) (oi := { dst := some 90, op := Go.Op.pick (Go.Operand.tmp 82) (Go.Operand.tmp 89) (Go.Operand.const (Go.Value.bool false)), type := 4, pos := "law.go:36", after := #[{ on := 8, ground := Go.Ground.data }, { on := 15, ground := Go.Ground.data }, { on := 5, ground := Go.Ground.guard }], guard := some (5, false) }) (v := ?vz_106) rfl (by kernel_rfl) (by kernel_rfl) (by kernel_rfl) (fun _ _ _ h => h) (Or.inl ⟨by rfl, ?hyz_106⟩) (by assumption) ?rez_106
            case hyz_106 => (intro w hSw; (try dsimp only at hSw); go_simp; try with_reducible rfl)
            try simp only [Act.put, List.setIfInBounds_toArray, List.set_cons_zero, List.set_cons_succ]
            refine wpAnyH_take (i := 17) (oi := { dst := some 91, op := Go.Op.pick (Go.Operand.tmp 79) (Go.Operand.const (Go.Value.bool true)) (Go.Operand.tmp 90), type := 4, pos := "law.go:36", after := #[{ on := 5, ground := Go.Ground.data }, { on := 16, ground := Go.Ground.data }], guard := none }) (v := ?vz_107) rfl (by kernel_rfl) (by kernel_rfl) (by kernel_rfl) (fun _ _ _ h => h) (Or.inl ⟨by rfl, ?hyz_107⟩) (by assumption) ?rez_107
            case hyz_107 => (intro w hSw; (try dsimp only at hSw); go_simp; try with_reducible rfl)
            try simp only [Act.put, List.setIfInBounds_toArray, List.set_cons_zero, List.set_cons_succ]
            refine wpAnyH_take (i := 18) (oi := { dst := some 92, op := Go.Op.move (Go.Operand.tmp 91), type := 4, pos := "law.go:36", after := #[{ on := 17, ground := Go.Ground.data }, { on := 14, ground := Go.Ground.chain }], guard := none }) (v := ?vz_108) rfl (by kernel_rfl) (by kernel_rfl) (by kernel_rfl) (fun _ _ _ h => h) (Or.inl ⟨by rfl, ?hyz_108⟩) (by assumption) ?rez_108
            case hyz_108 => (intro w hSw; (try dsimp only at hSw); go_simp; try with_reducible rfl)
            try simp only [Act.put, List.setIfInBounds_toArray, List.set_cons_zero, List.set_cons_succ]
            refine wpAnyH_take (i := 19) (oi := { dst := some 93, op := Go.Op.move (Go.Operand.tmp 7), type := 52, pos := "law.go:36", after := #[{ on := 18, ground := Go.Ground.guard }], guard := some (18, false) }) (v := ?vz_109) rfl (by kernel_rfl) (by kernel_rfl) (by kernel_rfl) (fun _ _ _ h => h) (Or.inl ⟨by rfl, ?hyz_109⟩) (by assumption) ?rez_109
            case hyz_109 => (intro w hSw; (try dsimp only at hSw); go_simp; try with_reducible rfl)
            try simp only [Act.put, List.setIfInBounds_toArray, List.set_cons_zero, List.set_cons_succ]
            refine wpAnyH_take (i := 20) (oi := { dst := some 94, op := Go.Op.move (Go.Operand.tmp 10), type := 3, pos := "law.go:36", after := #[{ on := 18, ground := Go.Ground.guard }], guard := some (18, false) }) (v := ?vz_110) rfl (by kernel_rfl) (by kernel_rfl) (by kernel_rfl) (fun _ _ _ h => h) (Or.inl ⟨by rfl, ?hyz_110⟩) (by assumption) ?rez_110
            case hyz_110 => (intro w hSw; (try dsimp only at hSw); go_simp; try with_reducible rfl)
            try simp only [Act.put, List.setIfInBounds_toArray, List.set_cons_zero, List.set_cons_succ]
            refine wpAnyH_take (i := 22) (oi := { dst := some 96, op := Go.Op.move (Go.Operand.tmp 0), type := 45, pos := "law.go:36", after := #[{ on := 18, ground := Go.Ground.guard }], guard := some (18, false) }) (v := ?vz_111) rfl (by kernel_rfl) (by kernel_rfl) (by kernel_rfl) (fun _ _ _ h => h) (Or.inl ⟨by rfl, ?hyz_111⟩) (by assumption) ?rez_111
            case hyz_111 => (intro w hSw; (try dsimp only at hSw); go_simp; try with_reducible rfl)
            try simp only [Act.put, List.setIfInBounds_toArray, List.set_cons_zero, List.set_cons_succ]
            refine wpAnyH_take (i := 23) (oi := { dst := some 97, op := Go.Op.move (Go.Operand.tmp 8), type := 45, pos := "law.go:36", after := #[{ on := 18, ground := Go.Ground.guard }], guard := some (18, false) }) (v := ?vz_112) rfl (by kernel_rfl) (by kernel_rfl) (by kernel_rfl) (fun _ _ _ h => h) (Or.inl ⟨by rfl, ?hyz_112⟩) (by assumption) ?rez_112
            case hyz_112 => (intro w hSw; (try dsimp only at hSw); go_simp; try with_reducible rfl)
            try simp only [Act.put, List.setIfInBounds_toArray, List.set_cons_zero, List.set_cons_succ]
            refine wpAnyH_take (i := 24) (oi := { dst := some 98, op := Go.Op.move (Go.Operand.tmp 10), type := 3, pos := "law.go:36", after := #[{ on := 18, ground := Go.Ground.guard }], guard := some (18, false) }) (v := ?vz_113) rfl (by kernel_rfl) (by kernel_rfl) (by kernel_rfl) (fun _ _ _ h => h) (Or.inl ⟨by rfl, ?hyz_113⟩) (by assumption) ?rez_113
            case hyz_113 => (intro w hSw; (try dsimp only at hSw); go_simp; try with_reducible rfl)
            try simp only [Act.put, List.setIfInBounds_toArray, List.set_cons_zero, List.set_cons_succ]
            refine wpAnyH_ready (rs := [21]) (by kernel_rfl) (by simp) ?rdz_114
            refine AllReadyH.cons (o := { dst := some 95, op := Go.Op.call { callee := Go.Callee.value (Go.Operand.func 45), args := #[Go.Operand.tmp 93, Go.Operand.tmp 94], argTypes := #[52, 3] }, type := 3, pos := "law.go:36", after := #[{ on := 19, ground := Go.Ground.data }, { on := 20, ground := Go.Ground.data }, { on := 18, ground := Go.Ground.chain }, { on := 18, ground := Go.Ground.guard }], guard := some (18, false) }) rfl (fun K hK => ?stz_114) AllReadyH.nil
            (go_simp; go_at_call 45; refine (mout_any (HM.out.below (by repeat (first | (with_reducible first | exact HB.out | apply below_alloc | apply pw_below_drewN | apply below_drew1) | exact HB.out))) HIn.out (i : Int) ov HQ.out.2.2.2.2.2).mono ?_; rintro e w8 ⟨rfl, hg⟩; have n_ := Aside0.mk (below_step (by repeat (first | (with_reducible first | exact HB.out | apply below_alloc | apply pw_below_drewN | apply below_drew1) | exact HB.out)) hg.below); clear HB; have HB := n_; clear n_; clear hg)
            refine hK.out _ _ ?hsz_114 (fun hHeld => ?rez_114)
            case hsz_114 => (first | exact hx6 | assumption | exact cell_below HB.out hx6 | exact cell_below (by repeat (first | (with_reducible first | exact HB.out | apply below_alloc | apply pw_below_drewN | apply below_drew1) | exact HB.out)) hx6 | go_keep)
            clear hK K
            try simp only [Act.put, List.setIfInBounds_toArray, List.set_cons_zero, List.set_cons_succ]
            refine wpAnyH_ready (rs := [25]) (by kernel_rfl) (by simp) ?rdz_115
            refine AllReadyH.cons (o := { dst := some 99, op := Go.Op.call { callee := Go.Callee.value (Go.Operand.func 46), args := #[Go.Operand.tmp 96, Go.Operand.tmp 97, Go.Operand.tmp 98], argTypes := #[45, 45, 3] }, type := 3, pos := "law.go:36", after := #[{ on := 22, ground := Go.Ground.data }, { on := 23, ground := Go.Ground.data }, { on := 24, ground := Go.Ground.data }, { on := 21, ground := Go.Ground.chain }, { on := 18, ground := Go.Ground.guard }], guard := some (18, false) }) rfl (fun K hK => ?stz_115) AllReadyH.nil
            (go_simp; go_at_call 46; refine (paronymref23_Out.calls 6000000 A c l (some ad6) c6 (textsOf l) (i : Int) ov _ (Kd.V_reads' (Kd.V_below HVr.out (by repeat (first | (with_reducible first | exact HB.out | apply below_alloc | apply pw_below_drewN | apply below_drew1) | exact HB.out)))).2.2 (Kd.V_reads' HV.out).2.1 (Kd.C_below HC6.out.2 (by repeat (first | (with_reducible first | exact HB.out | apply below_alloc | apply pw_below_drewN | apply below_drew1) | exact HB.out))) HC6.out.1 (by rw [HQ.out.2.2.2.2.2]; exact rout_f (kl_trie HIn.out).1 (kl_trie HIn.out).2.2.2.1 HIn.out.bnd.1 _ (by omega))).mono ?_; rintro e w8 ⟨rfl, hb⟩; have n_ := Aside0.mk (below_step (by repeat (first | (with_reducible first | exact HB.out | apply below_alloc | apply pw_below_drewN | apply below_drew1) | exact HB.out)) hb); clear HB; have HB := n_; clear n_; clear hb)
            refine hK.out _ _ ?hsz_115 (fun hHeld => ?rez_115)
            case hsz_115 => (first | exact hx6 | assumption | exact cell_below HB.out hx6 | exact cell_below (by repeat (first | (with_reducible first | exact HB.out | apply below_alloc | apply pw_below_drewN | apply below_drew1) | exact HB.out)) hx6 | go_keep)
            clear hK K
            try simp only [Act.put, List.setIfInBounds_toArray, List.set_cons_zero, List.set_cons_succ]
            refine wpAnyH_take (i := 26) (oi := { dst := some 100, op := Go.Op.binOp Go.BinOp.neq 3 (Go.Operand.tmp 95) (Go.Operand.tmp 99) 3, type := 4, pos := "law.go:36", after := #[{ on := 21, ground := Go.Ground.data }, { on := 25, ground := Go.Ground.data }, { on := 18, ground := Go.Ground.guard }], guard := some (18, false) }) (v := ?vz_116) rfl (by kernel_rfl) (by kernel_rfl) (by kernel_rfl) (fun _ _ _ h => h) (Or.inl ⟨by rfl, ?hyz_116⟩) (by assumption) ?rez_116
            case hyz_116 => (intro w hSw; (try dsimp only at hSw); go_simp; try with_reducible rfl)
            try simp only [Act.put, List.setIfInBounds_toArray, List.set_cons_zero, List.set_cons_succ]
            refine wpAnyH_take (i := 27) (oi := { dst := some 101, op := Go.Op.pick (Go.Operand.tmp 92) (Go.Operand.const (Go.Value.bool true)) (Go.Operand.tmp 100), type := 4, pos := "law.go:36", after := #[{ on := 18, ground := Go.Ground.data }, { on := 26, ground := Go.Ground.data }], guard := none }) (v := ?vz_117) rfl (by kernel_rfl) (by kernel_rfl) (by kernel_rfl) (fun _ _ _ h => h) (Or.inl ⟨by rfl, ?hyz_117⟩) (by assumption) ?rez_117
            case hyz_117 => (intro w hSw; (try dsimp only at hSw); go_simp; try with_reducible rfl)
            try simp only [Act.put, List.setIfInBounds_toArray, List.set_cons_zero, List.set_cons_succ]
            refine wpAnyH_take (i := 28) (oi := { dst := some 102, op := Go.Op.move (Go.Operand.tmp 101), type := 4, pos := "law.go:36", after := #[{ on := 27, ground := Go.Ground.data }, { on := 25, ground := Go.Ground.chain }], guard := none }) (v := ?vz_118) rfl (by kernel_rfl) (by kernel_rfl) (by kernel_rfl) (fun _ _ _ h => h) (Or.inl ⟨by rfl, ?hyz_118⟩) (by assumption) ?rez_118
            case hyz_118 => (intro w hSw; (try dsimp only at hSw); go_simp; try with_reducible rfl)
            try simp only [Act.put, List.setIfInBounds_toArray, List.set_cons_zero, List.set_cons_succ]
            refine wpAnyH_take (i := 29) (oi := { dst := some 103, op := Go.Op.move (Go.Operand.tmp 7), type := 52, pos := "law.go:36", after := #[{ on := 28, ground := Go.Ground.guard }], guard := some (28, false) }) (v := ?vz_119) rfl (by kernel_rfl) (by kernel_rfl) (by kernel_rfl) (fun _ _ _ h => h) (Or.inl ⟨by rfl, ?hyz_119⟩) (by assumption) ?rez_119
            case hyz_119 => (intro w hSw; (try dsimp only at hSw); go_simp; try with_reducible rfl)
            try simp only [Act.put, List.setIfInBounds_toArray, List.set_cons_zero, List.set_cons_succ]
            refine wpAnyH_take (i := 30) (oi := { dst := some 104, op := Go.Op.move (Go.Operand.tmp 10), type := 3, pos := "law.go:36", after := #[{ on := 28, ground := Go.Ground.guard }], guard := some (28, false) }) (v := ?vz_120) rfl (by kernel_rfl) (by kernel_rfl) (by kernel_rfl) (fun _ _ _ h => h) (Or.inl ⟨by rfl, ?hyz_120⟩) (by assumption) ?rez_120
            case hyz_120 => (intro w hSw; (try dsimp only at hSw); go_simp; try with_reducible rfl)
            try simp only [Act.put, List.setIfInBounds_toArray, List.set_cons_zero, List.set_cons_succ]
            refine wpAnyH_take (i := 32) (oi := { dst := some 106, op := Go.Op.move (Go.Operand.tmp 0), type := 45, pos := "law.go:36", after := #[{ on := 28, ground := Go.Ground.guard }], guard := some (28, false) }) (v := ?vz_121) rfl (by kernel_rfl) (by kernel_rfl) (by kernel_rfl) (fun _ _ _ h => h) (Or.inl ⟨by rfl, ?hyz_121⟩) (by assumption) ?rez_121
            case hyz_121 => (intro w hSw; (try dsimp only at hSw); go_simp; try with_reducible rfl)
            try simp only [Act.put, List.setIfInBounds_toArray, List.set_cons_zero, List.set_cons_succ]
            refine wpAnyH_take (i := 33) (oi := { dst := some 107, op := Go.Op.move (Go.Operand.tmp 8), type := 45, pos := "law.go:36", after := #[{ on := 28, ground := Go.Ground.guard }], guard := some (28, false) }) (v := ?vz_122) rfl (by kernel_rfl) (by kernel_rfl) (by kernel_rfl) (fun _ _ _ h => h) (Or.inl ⟨by rfl, ?hyz_122⟩) (by assumption) ?rez_122
            case hyz_122 => (intro w hSw; (try dsimp only at hSw); go_simp; try with_reducible rfl)
            try simp only [Act.put, List.setIfInBounds_toArray, List.set_cons_zero, List.set_cons_succ]
            refine wpAnyH_take (i := 34) (oi := { dst := some 108, op := Go.Op.move (Go.Operand.tmp 10), type := 3, pos := "law.go:36", after := #[{ on := 28, ground := Go.Ground.guard }], guard := some (28, false) }) (v := ?vz_123) rfl (by kernel_rfl) (by kernel_rfl) (by kernel_rfl) (fun _ _ _ h => h) (Or.inl ⟨by rfl, ?hyz_123⟩) (by assumption) ?rez_123
            case hyz_123 => (intro w hSw; (try dsimp only at hSw); go_simp; try with_reducible rfl)
            try simp only [Act.put, List.setIfInBounds_toArray, List.set_cons_zero, List.set_cons_succ]
            refine wpAnyH_take (i := 35) (oi := { dst := some 109, op := Go.Op.indexAddr 45 (Go.Operand.tmp 107) (Go.Operand.tmp 108), type := 0, pos := "law.go:36", after := #[{ on := 33, ground := Go.Ground.data }, { on := 34, ground := Go.Ground.data }, { on := 28, ground := Go.Ground.guard }], guard := some (28, false) }) (v := ?vz_124) rfl (by kernel_rfl) (by kernel_rfl) (by kernel_rfl) (fun _ _ _ h => h) (Or.inl ⟨by rfl, ?hyz_124⟩) (by assumption) ?rez_124
            case hyz_124 => (intro w hSw; (try dsimp only at hSw); go_simp; try with_reducible rfl)
            try simp only [Act.put, List.setIfInBounds_toArray, List.set_cons_zero, List.set_cons_succ]
            refine wpAnyH_take (i := 36) (oi := { dst := some 110, op := Go.Op.load 23 (Go.Operand.tmp 109), type := 23, pos := "law.go:36", after := #[{ on := 35, ground := Go.Ground.data }, { on := 28, ground := Go.Ground.guard }], guard := some (28, false) }) (v := ?vz_125) rfl (by kernel_rfl) (by kernel_rfl) (by kernel_rfl) (fun _ _ _ h => h) (Or.inl ⟨by rfl, ?hyz_125⟩) (by assumption) ?rez_125
            case hyz_125 => (intro w hSw; (try dsimp only at hSw); go_simp; try with_reducible rfl)
            try simp only [Act.put, List.setIfInBounds_toArray, List.set_cons_zero, List.set_cons_succ]
            refine wpAnyH_ready (rs := [31]) (by kernel_rfl) (by simp) ?rdz_126
            refine AllReadyH.cons (o := { dst := some 105, op := Go.Op.call { callee := Go.Callee.value (Go.Operand.func 47), args := #[Go.Operand.tmp 103, Go.Operand.tmp 104], argTypes := #[52, 3] }, type := 23, pos := "law.go:36", after := #[{ on := 29, ground := Go.Ground.data }, { on := 30, ground := Go.Ground.data }, { on := 28, ground := Go.Ground.chain }, { on := 28, ground := Go.Ground.guard }], guard := some (28, false) }) rfl (fun K hK => ?stz_126) AllReadyH.nil
            (go_simp; go_at_call 47; refine (mpat_at (HM.out.below (by repeat (first | (with_reducible first | exact HB.out | apply below_alloc | apply pw_below_drewN | apply below_drew1) | exact HB.out))) HIn.out HEm.out HQ.out.2.2.2.1).mono ?_; rintro e w8 ⟨v8, rfl, hR, hb⟩; obtain ⟨A8, c8, rfl, hl8, hC8⟩ := Kd.R_reads hR; have HC8 := Aside0.mk (And.intro hl8 hC8); have n_ := Aside0.mk (below_step (by repeat (first | (with_reducible first | exact HB.out | apply below_alloc | apply pw_below_drewN | apply below_drew1) | exact HB.out)) hb); clear HB; have HB := n_; clear n_; clear hb hR hl8 hC8)
            refine hK.out _ _ ?hsz_126 (fun hHeld => ?rez_126)
            case hsz_126 => (first | exact hx6 | assumption | exact cell_below HB.out hx6 | exact cell_below (by repeat (first | (with_reducible first | exact HB.out | apply below_alloc | apply pw_below_drewN | apply below_drew1) | exact HB.out)) hx6 | go_keep)
            clear hK K
            try simp only [Act.put, List.setIfInBounds_toArray, List.set_cons_zero, List.set_cons_succ]
            refine wpAnyH_ready (rs := [37]) (by kernel_rfl) (by simp) ?rdz_127
            refine AllReadyH.cons (o := { dst := some 111, op := Go.Op.call { callee := Go.Callee.value (Go.Operand.func 48), args := #[Go.Operand.tmp 106, Go.Operand.tmp 110], argTypes := #[45, 23] }, type := 23, pos := "law.go:36", after := #[{ on := 32, ground := Go.Ground.data }, { on := 36, ground := Go.Ground.data }, { on := 31, ground := Go.Ground.chain }, { on := 28, ground := Go.Ground.guard }], guard := some (28, false) }) rfl (fun K hK => ?stz_127) AllReadyH.nil
            (go_simp; go_at_call 48; refine (paronymref23_Patterns.calls 6000000 A c l A6i c6i u (patT 0 l u) _ (Kd.V_reads' (Kd.V_below HVr.out (by repeat (first | (with_reducible first | exact HB.out | apply below_alloc | apply pw_below_drewN | apply below_drew1) | exact HB.out)))).2.2 (Kd.V_reads' HV.out).2.1 (Kd.C_below HCi.out.2 (by repeat (first | (with_reducible first | exact HB.out | apply below_alloc | apply pw_below_drewN | apply below_drew1) | exact HB.out))) HCi.out.1 (rpat_f HIn.out.bnd.1 ((kl_trie HIn.out).2.2.2.1.2 u (List.mem_of_getElem? HQ.out.2.2.2.1)) (by omega))).mono ?_; rintro e w9 ⟨v9, rfl, hR, hb⟩; obtain ⟨A9, c9, rfl, hl9, hC9⟩ := Kd.R_reads hR; have HC9 := Aside0.mk (And.intro hl9 hC9); have m_ := Aside0.mk (And.intro HC8.out.1 (Kd.C_below HC8.out.2 hb)); clear HC8; have HC8 := m_; clear m_; have n_ := Aside0.mk (below_step (by repeat (first | (with_reducible first | exact HB.out | apply below_alloc | apply pw_below_drewN | apply below_drew1) | exact HB.out)) hb); clear HB; have HB := n_; clear n_; clear hb hR hl9 hC9)
            refine hK.out _ _ ?hsz_127 (fun hHeld => ?rez_127)
            case hsz_127 => (first | exact hx6 | assumption | exact cell_below HB.out hx6 | exact cell_below (by repeat (first | (with_reducible first | exact HB.out | apply below_alloc | apply pw_below_drewN | apply below_drew1) | exact HB.out)) hx6 | go_keep)
            clear hK K
            try simp only [Act.put, List.setIfInBounds_toArray, List.set_cons_zero, List.set_cons_succ]
            refine wpAnyH_ready (rs := [38]) (by kernel_rfl) (by simp) ?rdz_128
            refine AllReadyH.cons (o := { dst := some 112, op := Go.Op.call { callee := Go.Callee.value (Go.Operand.func 18), args := #[Go.Operand.tmp 105, Go.Operand.tmp 111], argTypes := #[23, 23] }, type := 4, pos := "law.go:36", after := #[{ on := 31, ground := Go.Ground.data }, { on := 37, ground := Go.Ground.data }, { on := 37, ground := Go.Ground.chain }, { on := 28, ground := Go.Ground.guard }], guard := some (28, false) }) rfl (fun K hK => ?stz_128) AllReadyH.nil
            (go_simp; go_at_call 18; refine (paronymref01_Same.calls 6000000 A8 c8 (patT 0 l u) A9 c9 (patT 0 l u) true _ (by repeat (first | exact HC8.out.2 | apply Kd.C_drewN | apply Kd.C_alloc | apply Kd.C_drew)) HC8.out.1 (by repeat (first | exact HC9.out.2 | apply Kd.C_drewN | apply Kd.C_alloc | apply Kd.C_drew)) HC9.out.1 (by rw [RefS.ref_same _ _ (pat_len HIn.out u) (pat_len HIn.out u) _ (by have := pat_len HIn.out u; omega)]; simp)).mono ?_; rintro e w8 ⟨rfl, ⟨nd, rfl⟩⟩)
            refine hK.out _ _ ?hsz_128 (fun hHeld => ?rez_128)
            case hsz_128 => (first | exact hx6 | assumption | exact cell_below HB.out hx6 | exact cell_below (by repeat (first | (with_reducible first | exact HB.out | apply below_alloc | apply pw_below_drewN | apply below_drew1) | exact HB.out)) hx6 | go_keep)
            clear hK K
            try simp only [Act.put, List.setIfInBounds_toArray, List.set_cons_zero, List.set_cons_succ]
            refine wpAnyH_take (i := 39) (oi := { dst := some 113, op := Go.Op.unOp Go.UnOp.not 4 (Go.Operand.tmp 112), type := 4, pos := "law.go:36", after := #[{ on := 38, ground := Go.Ground.data }, { on := 28, ground := Go.Ground.guard }], guard := some (28, false) }) (v := ?vz_129) rfl (by kernel_rfl) (by kernel_rfl) (by kernel_rfl) (fun _ _ _ h => h) (Or.inl ⟨by rfl, ?hyz_129⟩) (by assumption) ?rez_129
            case hyz_129 => (intro w hSw; (try dsimp only at hSw); go_simp; try with_reducible rfl)
            try simp only [Act.put, List.setIfInBounds_toArray, List.set_cons_zero, List.set_cons_succ]
            refine wpAnyH_take (i := 40) (oi := { dst := some 114, op := Go.Op.pick (Go.Operand.tmp 102) (Go.Operand.const (Go.Value.bool true)) (Go.Operand.tmp 113), type := 4, pos := "law.go:36", after := #[{ on := 28, ground := Go.Ground.data }, { on := 39, ground := Go.Ground.data }], guard := none }) (v := ?vz_130) rfl (by kernel_rfl) (by kernel_rfl) (by kernel_rfl) (fun _ _ _ h => h) (Or.inl ⟨by rfl, ?hyz_130⟩) (by assumption) ?rez_130
            case hyz_130 => (intro w hSw; (try dsimp only at hSw); go_simp; try with_reducible rfl)
            try simp only [Act.put, List.setIfInBounds_toArray, List.set_cons_zero, List.set_cons_succ]
            refine wpAnyH_done (by kernel_rfl) ?dnz _
            by_cases heq : dpu = dpv
            · subst heq
              have hba : ¬ ((b : Int) ≤ (a : Int)) := by omega
              have hban : ¬ (b ≤ a) := by omega
              go_wp2_with fail
              refine wp_region_held_drew (S := (fun w' => w'.cell? (ad7.add j) = some (.int .i64 (a : Int)) ∧ w'.cell? (ad7.add i) = some (.int .i64 (b : Int)))) (by kernel_rfl) ?s0v (fun hHeld => ?b0v)
              case s0v => (first | exact ⟨hxa, hxb⟩ | assumption | exact ⟨cell_below (by repeat (first | (with_reducible first | exact HB.out | apply below_alloc | apply pw_below_drewN | apply below_drew1) | exact HB.out)) hxa, cell_below (by repeat (first | (with_reducible first | exact HB.out | apply below_alloc | apply pw_below_drewN | apply below_drew1) | exact HB.out)) hxb⟩ | go_keep)
              refine wpAnyH_take (i := 0) (oi := { dst := some 115, op := Go.Op.move (Go.Operand.tmp 10), type := 3, pos := "law.go:39", after := #[], guard := none }) (v := ?vv_132) rfl (by kernel_rfl) (by kernel_rfl) (by kernel_rfl) (fun _ _ _ h => h) (Or.inl ⟨by rfl, ?hyv_132⟩) (by assumption) ?rev_132
              case hyv_132 => (intro w hSw; (try dsimp only at hSw); go_simp; try with_reducible rfl)
              try simp only [Act.put, List.setIfInBounds_toArray, List.set_cons_zero, List.set_cons_succ]
              refine wpAnyH_take (i := 1) (oi := { dst := some 116, op := Go.Op.binOp Go.BinOp.gtr 3 (Go.Operand.tmp 115) (Go.Operand.const (Go.Value.int Go.IntKind.i64 0)) 3, type := 4, pos := "law.go:39", after := #[{ on := 0, ground := Go.Ground.data }], guard := none }) (v := ?vv_133) rfl (by kernel_rfl) (by kernel_rfl) (by kernel_rfl) (fun _ _ _ h => h) (Or.inl ⟨by rfl, ?hyv_133⟩) (by assumption) ?rev_133
              case hyv_133 => (intro w hSw; (try dsimp only at hSw); go_simp; try with_reducible rfl)
              try simp only [Act.put, List.setIfInBounds_toArray, List.set_cons_zero, List.set_cons_succ]
              refine wpAnyH_take (i := 2) (oi := { dst := some 117, op := Go.Op.move (Go.Operand.tmp 116), type := 4, pos := "law.go:39", after := #[{ on := 1, ground := Go.Ground.data }], guard := none }) (v := ?vv_134) rfl (by kernel_rfl) (by kernel_rfl) (by kernel_rfl) (fun _ _ _ h => h) (Or.inl ⟨by rfl, ?hyv_134⟩) (by assumption) ?rev_134
              case hyv_134 => (intro w hSw; (try dsimp only at hSw); go_simp; try with_reducible rfl)
              try simp only [Act.put, List.setIfInBounds_toArray, List.set_cons_zero, List.set_cons_succ]
              refine wpAnyH_take (i := 3) (oi := { dst := some 118, op := Go.Op.move (Go.Operand.tmp 5), type := 48, pos := "law.go:39", after := #[{ on := 2, ground := Go.Ground.guard }], guard := some (2, true) }) (v := ?vv_135) rfl (by kernel_rfl) (by kernel_rfl) (by kernel_rfl) (fun _ _ _ h => h) (Or.inl ⟨by rfl, ?hyv_135⟩) (by assumption) ?rev_135
              case hyv_135 => (intro w hSw; (try dsimp only at hSw); go_simp; try with_reducible rfl)
              try simp only [Act.put, List.setIfInBounds_toArray, List.set_cons_zero, List.set_cons_succ]
              refine wpAnyH_take (i := 4) (oi := { dst := some 119, op := Go.Op.move (Go.Operand.tmp 9), type := 23, pos := "law.go:39", after := #[{ on := 2, ground := Go.Ground.guard }], guard := some (2, true) }) (v := ?vv_136) rfl (by kernel_rfl) (by kernel_rfl) (by kernel_rfl) (fun _ _ _ h => h) (Or.inl ⟨by rfl, ?hyv_136⟩) (by assumption) ?rev_136
              case hyv_136 => (intro w hSw; (try dsimp only at hSw); go_simp; try with_reducible rfl)
              try simp only [Act.put, List.setIfInBounds_toArray, List.set_cons_zero, List.set_cons_succ]
              refine wpAnyH_take (i := 5) (oi := { dst := some 120, op := Go.Op.move (Go.Operand.tmp 10), type := 3, pos := "law.go:39", after := #[{ on := 2, ground := Go.Ground.guard }], guard := some (2, true) }) (v := ?vv_137) rfl (by kernel_rfl) (by kernel_rfl) (by kernel_rfl) (fun _ _ _ h => h) (Or.inl ⟨by rfl, ?hyv_137⟩) (by assumption) ?rev_137
              case hyv_137 => (intro w hSw; (try dsimp only at hSw); go_simp; try with_reducible rfl)
              try simp only [Act.put, List.setIfInBounds_toArray, List.set_cons_zero, List.set_cons_succ]
              refine wpAnyH_take (i := 6) (oi := { dst := some 121, op := Go.Op.binOp Go.BinOp.sub 3 (Go.Operand.tmp 120) (Go.Operand.const (Go.Value.int Go.IntKind.i64 1)) 3, type := 3, pos := "law.go:39", after := #[{ on := 5, ground := Go.Ground.data }, { on := 2, ground := Go.Ground.guard }], guard := some (2, true) }) (v := ?vv_138) rfl (by kernel_rfl) (by kernel_rfl) (by kernel_rfl) (fun _ _ _ h => h) (Or.inl ⟨by rfl, ?hyv_138⟩) (by assumption) ?rev_138
              case hyv_138 => (intro w hSw; (try dsimp only at hSw); go_simp; try with_reducible rfl)
              try simp only [Act.put, List.setIfInBounds_toArray, List.set_cons_zero, List.set_cons_succ]
              refine wpAnyH_take (i := 7) (oi := { dst := some 122, op := Go.Op.indexAddr 23 (Go.Operand.tmp 119) (Go.Operand.tmp 121), type := 0, pos := "law.go:39", after := #[{ on := 4, ground := Go.Ground.data }, { on := 6, ground := Go.Ground.data }, { on := 2, ground := Go.Ground.guard }], guard := some (2, true) }) (v := ?vv_139) rfl (by kernel_rfl) (by kernel_rfl) (by kernel_rfl) (fun _ _ _ h => h) (Or.inl ⟨by rfl, ?hyv_139⟩) (by assumption) ?rev_139
              case hyv_139 => (intro w hSw; (try dsimp only at hSw); go_simp; try with_reducible rfl)
              try simp only [Act.put, List.setIfInBounds_toArray, List.set_cons_zero, List.set_cons_succ]
              refine wpAnyH_take (i := 8) (oi := { dst := some 123, op := Go.Op.load 3 (Go.Operand.tmp 122), type := 3, pos := "law.go:39", after := #[{ on := 7, ground := Go.Ground.data }, { on := 2, ground := Go.Ground.guard }], guard := some (2, true) }) (v := ?vv_140) rfl (by kernel_rfl) (by kernel_rfl) (by kernel_rfl) (fun _ _ _ h => h) (Or.inl ⟨by rfl, ?hyv_140⟩) (by assumption) ?rev_140
              case hyv_140 => (intro w hSw; (try dsimp only at hSw); go_simp; try with_reducible rfl)
              try simp only [Act.put, List.setIfInBounds_toArray, List.set_cons_zero, List.set_cons_succ]
              refine wpAnyH_take (i := 10) (oi := { dst := some 125, op := Go.Op.move (Go.Operand.tmp 5), type := 48, pos := "law.go:39", after := #[{ on := 2, ground := Go.Ground.guard }], guard := some (2, true) }) (v := ?vv_141) rfl (by kernel_rfl) (by kernel_rfl) (by kernel_rfl) (fun _ _ _ h => h) (Or.inl ⟨by rfl, ?hyv_141⟩) (by assumption) ?rev_141
              case hyv_141 => (intro w hSw; (try dsimp only at hSw); go_simp; try with_reducible rfl)
              try simp only [Act.put, List.setIfInBounds_toArray, List.set_cons_zero, List.set_cons_succ]
              refine wpAnyH_take (i := 11) (oi := { dst := some 126, op := Go.Op.move (Go.Operand.tmp 9), type := 23, pos := "law.go:39", after := #[{ on := 2, ground := Go.Ground.guard }], guard := some (2, true) }) (v := ?vv_142) rfl (by kernel_rfl) (by kernel_rfl) (by kernel_rfl) (fun _ _ _ h => h) (Or.inl ⟨by rfl, ?hyv_142⟩) (by assumption) ?rev_142
              case hyv_142 => (intro w hSw; (try dsimp only at hSw); go_simp; try with_reducible rfl)
              try simp only [Act.put, List.setIfInBounds_toArray, List.set_cons_zero, List.set_cons_succ]
              refine wpAnyH_take (i := 12) (oi := { dst := some 127, op := Go.Op.move (Go.Operand.tmp 10), type := 3, pos := "law.go:39", after := #[{ on := 2, ground := Go.Ground.guard }], guard := some (2, true) }) (v := ?vv_143) rfl (by kernel_rfl) (by kernel_rfl) (by kernel_rfl) (fun _ _ _ h => h) (Or.inl ⟨by rfl, ?hyv_143⟩) (by assumption) ?rev_143
              case hyv_143 => (intro w hSw; (try dsimp only at hSw); go_simp; try with_reducible rfl)
              try simp only [Act.put, List.setIfInBounds_toArray, List.set_cons_zero, List.set_cons_succ]
              refine wpAnyH_take (i := 13) (oi := { dst := some 128, op := Go.Op.indexAddr 23 (Go.Operand.tmp 126) (Go.Operand.tmp 127), type := 0, pos := "law.go:39", after := #[{ on := 11, ground := Go.Ground.data }, { on := 12, ground := Go.Ground.data }, { on := 2, ground := Go.Ground.guard }], guard := some (2, true) }) (v := ?vv_144) rfl (by kernel_rfl) (by kernel_rfl) (by kernel_rfl) (fun _ _ _ h => h) (Or.inl ⟨by rfl, ?hyv_144⟩) (by assumption) ?rev_144
              case hyv_144 => (intro w hSw; (try dsimp only at hSw); go_simp; try with_reducible rfl)
              try simp only [Act.put, List.setIfInBounds_toArray, List.set_cons_zero, List.set_cons_succ]
              refine wpAnyH_take (i := 14) (oi := { dst := some 129, op := Go.Op.load 3 (Go.Operand.tmp 128), type := 3, pos := "law.go:39", after := #[{ on := 13, ground := Go.Ground.data }, { on := 2, ground := Go.Ground.guard }], guard := some (2, true) }) (v := ?vv_145) rfl (by kernel_rfl) (by kernel_rfl) (by kernel_rfl) (fun _ _ _ h => h) (Or.inl ⟨by rfl, ?hyv_145⟩) (by assumption) ?rev_145
              case hyv_145 => (intro w hSw; (try dsimp only at hSw); go_simp; try with_reducible rfl)
              try simp only [Act.put, List.setIfInBounds_toArray, List.set_cons_zero, List.set_cons_succ]
              refine wpAnyH_ready (rs := [9]) (by kernel_rfl) (by simp) ?rdv_146
              refine AllReadyH.cons (o := { dst := some 124, op := Go.Op.call { callee := Go.Callee.value (Go.Operand.func 41), args := #[Go.Operand.tmp 118, Go.Operand.tmp 123], argTypes := #[48, 3] }, type := 3, pos := "law.go:39", after := #[{ on := 3, ground := Go.Ground.data }, { on := 8, ground := Go.Ground.data }, { on := 2, ground := Go.Ground.chain }, { on := 2, ground := Go.Ground.guard }], guard := some (2, true) }) rfl (fun K hK => ?stv_146) AllReadyH.nil
              (go_simp; go_at_call 41; refine (mdepth_n (HM.out.below (by repeat (first | (with_reducible first | exact HB.out | apply below_alloc | apply pw_below_drewN | apply below_drew1) | exact HB.out))) HIn.out HT.out.1 dpu HT.out.2.2.1).mono ?_; rintro e w8 ⟨rfl, hg⟩; have n_ := Aside0.mk (below_step (by repeat (first | (with_reducible first | exact HB.out | apply below_alloc | apply pw_below_drewN | apply below_drew1) | exact HB.out)) hg.below); clear HB; have HB := n_; clear n_; clear hg)
              refine hK.out _ _ ?hsv_146 (fun hHeld => ?rev_146)
              case hsv_146 => (first | exact ⟨hxa, hxb⟩ | assumption | exact ⟨cell_below (by repeat (first | (with_reducible first | exact HB.out | apply below_alloc | apply pw_below_drewN | apply below_drew1) | exact HB.out)) hxa, cell_below (by repeat (first | (with_reducible first | exact HB.out | apply below_alloc | apply pw_below_drewN | apply below_drew1) | exact HB.out)) hxb⟩ | go_keep)
              clear hK K
              try simp only [Act.put, List.setIfInBounds_toArray, List.set_cons_zero, List.set_cons_succ]
              refine wpAnyH_ready (rs := [15]) (by kernel_rfl) (by simp) ?rdv_147
              refine AllReadyH.cons (o := { dst := some 130, op := Go.Op.call { callee := Go.Callee.value (Go.Operand.func 41), args := #[Go.Operand.tmp 125, Go.Operand.tmp 129], argTypes := #[48, 3] }, type := 3, pos := "law.go:39", after := #[{ on := 10, ground := Go.Ground.data }, { on := 14, ground := Go.Ground.data }, { on := 9, ground := Go.Ground.chain }, { on := 2, ground := Go.Ground.guard }], guard := some (2, true) }) rfl (fun K hK => ?stv_147) AllReadyH.nil
              (go_simp; go_at_call 41; refine (mdepth_n (HM.out.below (by repeat (first | (with_reducible first | exact HB.out | apply below_alloc | apply pw_below_drewN | apply below_drew1) | exact HB.out))) HIn.out HT.out.2.1 dpu HT.out.2.2.2).mono ?_; rintro e w8 ⟨rfl, hg⟩; have n_ := Aside0.mk (below_step (by repeat (first | (with_reducible first | exact HB.out | apply below_alloc | apply pw_below_drewN | apply below_drew1) | exact HB.out)) hg.below); clear HB; have HB := n_; clear n_; clear hg)
              refine hK.out _ _ ?hsv_147 (fun hHeld => ?rev_147)
              case hsv_147 => (first | exact ⟨hxa, hxb⟩ | assumption | exact ⟨cell_below (by repeat (first | (with_reducible first | exact HB.out | apply below_alloc | apply pw_below_drewN | apply below_drew1) | exact HB.out)) hxa, cell_below (by repeat (first | (with_reducible first | exact HB.out | apply below_alloc | apply pw_below_drewN | apply below_drew1) | exact HB.out)) hxb⟩ | go_keep)
              clear hK K
              try simp only [Act.put, List.setIfInBounds_toArray, List.set_cons_zero, List.set_cons_succ]
              refine wpAnyH_take (i := 16) (oi := { dst := some 131, op := Go.Op.binOp Go.BinOp.gtr 3 (Go.Operand.tmp 124) (Go.Operand.tmp 130) 3, type := 4, pos := "law.go:39", after := #[{ on := 9, ground := Go.Ground.data }, { on := 15, ground := Go.Ground.data }, { on := 2, ground := Go.Ground.guard }], guard := some (2, true) }) (v := ?vv_148) rfl (by kernel_rfl) (by kernel_rfl) (by kernel_rfl) (fun _ _ _ h => h) (Or.inl ⟨by rfl, ?hyv_148⟩) (by assumption) ?rev_148
              case hyv_148 => (intro w hSw; (try dsimp only at hSw); go_simp; try with_reducible rfl)
              try simp only [Act.put, List.setIfInBounds_toArray, List.set_cons_zero, List.set_cons_succ]
              refine wpAnyH_take (i := 17) (oi := { dst := some 132, op := Go.Op.move (Go.Operand.tmp 131), type := 4, pos := "law.go:39", after := #[{ on := 16, ground := Go.Ground.data }, { on := 15, ground := Go.Ground.chain }, { on := 2, ground := Go.Ground.guard }], guard := some (2, true) }) (v := ?vv_149) rfl (by kernel_rfl) (by kernel_rfl) (by kernel_rfl) (fun _ _ _ h => h) (Or.inl ⟨by rfl, ?hyv_149⟩) (by assumption) ?rev_149
              case hyv_149 => (intro w hSw; (try dsimp only at hSw); go_simp; try with_reducible rfl)
              try simp only [Act.put, List.setIfInBounds_toArray, List.set_cons_zero, List.set_cons_succ]
              refine wpAnyH_take (i := 18) (oi := { dst := some 133, op := Go.Op.move (Go.Operand.tmp 5), type := 48, pos := "law.go:39", after := #[{ on := 17, ground := Go.Ground.guard }], guard := some (17, false) }) (v := ?vv_150) rfl (by kernel_rfl) (by kernel_rfl) (by kernel_rfl) (fun _ _ _ h => h) (Or.inl ⟨by rfl, ?hyv_150⟩) (by assumption) ?rev_150
              case hyv_150 => (intro w hSw; (try dsimp only at hSw); go_simp; try with_reducible rfl)
              try simp only [Act.put, List.setIfInBounds_toArray, List.set_cons_zero, List.set_cons_succ]
              refine wpAnyH_take (i := 19) (oi := { dst := some 134, op := Go.Op.move (Go.Operand.tmp 9), type := 23, pos := "law.go:39", after := #[{ on := 17, ground := Go.Ground.guard }], guard := some (17, false) }) (v := ?vv_151) rfl (by kernel_rfl) (by kernel_rfl) (by kernel_rfl) (fun _ _ _ h => h) (Or.inl ⟨by rfl, ?hyv_151⟩) (by assumption) ?rev_151
              case hyv_151 => (intro w hSw; (try dsimp only at hSw); go_simp; try with_reducible rfl)
              try simp only [Act.put, List.setIfInBounds_toArray, List.set_cons_zero, List.set_cons_succ]
              refine wpAnyH_take (i := 20) (oi := { dst := some 135, op := Go.Op.move (Go.Operand.tmp 10), type := 3, pos := "law.go:39", after := #[{ on := 17, ground := Go.Ground.guard }], guard := some (17, false) }) (v := ?vv_152) rfl (by kernel_rfl) (by kernel_rfl) (by kernel_rfl) (fun _ _ _ h => h) (Or.inl ⟨by rfl, ?hyv_152⟩) (by assumption) ?rev_152
              case hyv_152 => (intro w hSw; (try dsimp only at hSw); go_simp; try with_reducible rfl)
              try simp only [Act.put, List.setIfInBounds_toArray, List.set_cons_zero, List.set_cons_succ]
              refine wpAnyH_take (i := 21) (oi := { dst := some 136, op := Go.Op.binOp Go.BinOp.sub 3 (Go.Operand.tmp 135) (Go.Operand.const (Go.Value.int Go.IntKind.i64 1)) 3, type := 3, pos := "law.go:39", after := #[{ on := 20, ground := Go.Ground.data }, { on := 17, ground := Go.Ground.guard }], guard := some (17, false) }) (v := ?vv_153) rfl (by kernel_rfl) (by kernel_rfl) (by kernel_rfl) (fun _ _ _ h => h) (Or.inl ⟨by rfl, ?hyv_153⟩) (by assumption) ?rev_153
              case hyv_153 => (intro w hSw; (try dsimp only at hSw); go_simp; try with_reducible rfl)
              try simp only [Act.put, List.setIfInBounds_toArray, List.set_cons_zero, List.set_cons_succ]
              refine wpAnyH_take (i := 22) (oi := { dst := some 137, op := Go.Op.indexAddr 23 (Go.Operand.tmp 134) (Go.Operand.tmp 136), type := 0, pos := "law.go:39", after := #[{ on := 19, ground := Go.Ground.data }, { on := 21, ground := Go.Ground.data }, { on := 17, ground := Go.Ground.guard }], guard := some (17, false) }) (v := ?vv_154) rfl (by kernel_rfl) (by kernel_rfl) (by kernel_rfl) (fun _ _ _ h => h) (Or.inl ⟨by rfl, ?hyv_154⟩) (by assumption) ?rev_154
              case hyv_154 => (intro w hSw; (try dsimp only at hSw); go_simp; try with_reducible rfl)
              try simp only [Act.put, List.setIfInBounds_toArray, List.set_cons_zero, List.set_cons_succ]
              refine wpAnyH_take (i := 23) (oi := { dst := some 138, op := Go.Op.load 3 (Go.Operand.tmp 137), type := 3, pos := "law.go:39", after := #[{ on := 22, ground := Go.Ground.data }, { on := 17, ground := Go.Ground.guard }], guard := some (17, false) }) (v := ?vv_155) rfl (by kernel_rfl) (by kernel_rfl) (by kernel_rfl) (fun _ _ _ h => h) (Or.inl ⟨by rfl, ?hyv_155⟩) (by assumption) ?rev_155
              case hyv_155 => (intro w hSw; (try dsimp only at hSw); go_simp; try with_reducible rfl)
              try simp only [Act.put, List.setIfInBounds_toArray, List.set_cons_zero, List.set_cons_succ]
              refine wpAnyH_take (i := 25) (oi := { dst := some 140, op := Go.Op.move (Go.Operand.tmp 5), type := 48, pos := "law.go:39", after := #[{ on := 17, ground := Go.Ground.guard }], guard := some (17, false) }) (v := ?vv_156) rfl (by kernel_rfl) (by kernel_rfl) (by kernel_rfl) (fun _ _ _ h => h) (Or.inl ⟨by rfl, ?hyv_156⟩) (by assumption) ?rev_156
              case hyv_156 => (intro w hSw; (try dsimp only at hSw); go_simp; try with_reducible rfl)
              try simp only [Act.put, List.setIfInBounds_toArray, List.set_cons_zero, List.set_cons_succ]
              refine wpAnyH_take (i := 26) (oi := { dst := some 141, op := Go.Op.move (Go.Operand.tmp 9), type := 23, pos := "law.go:39", after := #[{ on := 17, ground := Go.Ground.guard }], guard := some (17, false) }) (v := ?vv_157) rfl (by kernel_rfl) (by kernel_rfl) (by kernel_rfl) (fun _ _ _ h => h) (Or.inl ⟨by rfl, ?hyv_157⟩) (by assumption) ?rev_157
              case hyv_157 => (intro w hSw; (try dsimp only at hSw); go_simp; try with_reducible rfl)
              try simp only [Act.put, List.setIfInBounds_toArray, List.set_cons_zero, List.set_cons_succ]
              refine wpAnyH_take (i := 27) (oi := { dst := some 142, op := Go.Op.move (Go.Operand.tmp 10), type := 3, pos := "law.go:39", after := #[{ on := 17, ground := Go.Ground.guard }], guard := some (17, false) }) (v := ?vv_158) rfl (by kernel_rfl) (by kernel_rfl) (by kernel_rfl) (fun _ _ _ h => h) (Or.inl ⟨by rfl, ?hyv_158⟩) (by assumption) ?rev_158
              case hyv_158 => (intro w hSw; (try dsimp only at hSw); go_simp; try with_reducible rfl)
              try simp only [Act.put, List.setIfInBounds_toArray, List.set_cons_zero, List.set_cons_succ]
              refine wpAnyH_take (i := 28) (oi := { dst := some 143, op := Go.Op.indexAddr 23 (Go.Operand.tmp 141) (Go.Operand.tmp 142), type := 0, pos := "law.go:39", after := #[{ on := 26, ground := Go.Ground.data }, { on := 27, ground := Go.Ground.data }, { on := 17, ground := Go.Ground.guard }], guard := some (17, false) }) (v := ?vv_159) rfl (by kernel_rfl) (by kernel_rfl) (by kernel_rfl) (fun _ _ _ h => h) (Or.inl ⟨by rfl, ?hyv_159⟩) (by assumption) ?rev_159
              case hyv_159 => (intro w hSw; (try dsimp only at hSw); go_simp; try with_reducible rfl)
              try simp only [Act.put, List.setIfInBounds_toArray, List.set_cons_zero, List.set_cons_succ]
              refine wpAnyH_take (i := 29) (oi := { dst := some 144, op := Go.Op.load 3 (Go.Operand.tmp 143), type := 3, pos := "law.go:39", after := #[{ on := 28, ground := Go.Ground.data }, { on := 17, ground := Go.Ground.guard }], guard := some (17, false) }) (v := ?vv_160) rfl (by kernel_rfl) (by kernel_rfl) (by kernel_rfl) (fun _ _ _ h => h) (Or.inl ⟨by rfl, ?hyv_160⟩) (by assumption) ?rev_160
              case hyv_160 => (intro w hSw; (try dsimp only at hSw); go_simp; try with_reducible rfl)
              try simp only [Act.put, List.setIfInBounds_toArray, List.set_cons_zero, List.set_cons_succ]
              refine wpAnyH_ready (rs := [24]) (by kernel_rfl) (by simp) ?rdv_161
              refine AllReadyH.cons (o := { dst := some 139, op := Go.Op.call { callee := Go.Callee.value (Go.Operand.func 41), args := #[Go.Operand.tmp 133, Go.Operand.tmp 138], argTypes := #[48, 3] }, type := 3, pos := "law.go:39", after := #[{ on := 18, ground := Go.Ground.data }, { on := 23, ground := Go.Ground.data }, { on := 17, ground := Go.Ground.chain }, { on := 17, ground := Go.Ground.guard }], guard := some (17, false) }) rfl (fun K hK => ?stv_161) AllReadyH.nil
              (go_simp; go_at_call 41; refine (mdepth_n (HM.out.below (by repeat (first | (with_reducible first | exact HB.out | apply below_alloc | apply pw_below_drewN | apply below_drew1) | exact HB.out))) HIn.out HT.out.1 dpu HT.out.2.2.1).mono ?_; rintro e w8 ⟨rfl, hg⟩; have n_ := Aside0.mk (below_step (by repeat (first | (with_reducible first | exact HB.out | apply below_alloc | apply pw_below_drewN | apply below_drew1) | exact HB.out)) hg.below); clear HB; have HB := n_; clear n_; clear hg)
              refine hK.out _ _ ?hsv_161 (fun hHeld => ?rev_161)
              case hsv_161 => (first | exact ⟨hxa, hxb⟩ | assumption | exact ⟨cell_below (by repeat (first | (with_reducible first | exact HB.out | apply below_alloc | apply pw_below_drewN | apply below_drew1) | exact HB.out)) hxa, cell_below (by repeat (first | (with_reducible first | exact HB.out | apply below_alloc | apply pw_below_drewN | apply below_drew1) | exact HB.out)) hxb⟩ | go_keep)
              clear hK K
              try simp only [Act.put, List.setIfInBounds_toArray, List.set_cons_zero, List.set_cons_succ]
              refine wpAnyH_ready (rs := [30]) (by kernel_rfl) (by simp) ?rdv_162
              refine AllReadyH.cons (o := { dst := some 145, op := Go.Op.call { callee := Go.Callee.value (Go.Operand.func 41), args := #[Go.Operand.tmp 140, Go.Operand.tmp 144], argTypes := #[48, 3] }, type := 3, pos := "law.go:39", after := #[{ on := 25, ground := Go.Ground.data }, { on := 29, ground := Go.Ground.data }, { on := 24, ground := Go.Ground.chain }, { on := 17, ground := Go.Ground.guard }], guard := some (17, false) }) rfl (fun K hK => ?stv_162) AllReadyH.nil
              (go_simp; go_at_call 41; refine (mdepth_n (HM.out.below (by repeat (first | (with_reducible first | exact HB.out | apply below_alloc | apply pw_below_drewN | apply below_drew1) | exact HB.out))) HIn.out HT.out.2.1 dpu HT.out.2.2.2).mono ?_; rintro e w8 ⟨rfl, hg⟩; have n_ := Aside0.mk (below_step (by repeat (first | (with_reducible first | exact HB.out | apply below_alloc | apply pw_below_drewN | apply below_drew1) | exact HB.out)) hg.below); clear HB; have HB := n_; clear n_; clear hg)
              refine hK.out _ _ ?hsv_162 (fun hHeld => ?rev_162)
              case hsv_162 => (first | exact ⟨hxa, hxb⟩ | assumption | exact ⟨cell_below (by repeat (first | (with_reducible first | exact HB.out | apply below_alloc | apply pw_below_drewN | apply below_drew1) | exact HB.out)) hxa, cell_below (by repeat (first | (with_reducible first | exact HB.out | apply below_alloc | apply pw_below_drewN | apply below_drew1) | exact HB.out)) hxb⟩ | go_keep)
              clear hK K
              try simp only [Act.put, List.setIfInBounds_toArray, List.set_cons_zero, List.set_cons_succ]
              refine wpAnyH_take (i := 31) (oi := { dst := some 146, op := Go.Op.binOp Go.BinOp.eql 3 (Go.Operand.tmp 139) (Go.Operand.tmp 145) 3, type := 4, pos := "law.go:39", after := #[{ on := 24, ground := Go.Ground.data }, { on := 30, ground := Go.Ground.data }, { on := 17, ground := Go.Ground.guard }], guard := some (17, false) }) (v := ?vv_163) rfl (by kernel_rfl) (by kernel_rfl) (by kernel_rfl) (fun _ _ _ h => h) (Or.inl ⟨by rfl, ?hyv_163⟩) (by assumption) ?rev_163
              case hyv_163 => (intro w hSw; (try dsimp only at hSw); go_simp; try with_reducible rfl)
              try simp only [Act.put, List.setIfInBounds_toArray, List.set_cons_zero, List.set_cons_succ]
              refine wpAnyH_take (i := 32) (oi := { dst := some 147, op := Go.Op.move (Go.Operand.tmp 146), type := 4, pos := "law.go:39", after := #[{ on := 31, ground := Go.Ground.data }, { on := 30, ground := Go.Ground.chain }, { on := 17, ground := Go.Ground.guard }], guard := some (17, false) }) (v := ?vv_164) rfl (by kernel_rfl) (by kernel_rfl) (by kernel_rfl) (fun _ _ _ h => h) (Or.inl ⟨by rfl, ?hyv_164⟩) (by assumption) ?rev_164
              case hyv_164 => (intro w hSw; (try dsimp only at hSw); go_simp; try with_reducible rfl)
              try simp only [Act.put, List.setIfInBounds_toArray, List.set_cons_zero, List.set_cons_succ]
              refine wpAnyH_take (i := 33) (oi := { dst := some 148, op := Go.Op.move (Go.Operand.tmp 9), type := 23, pos := "law.go:39", after := #[{ on := 32, ground := Go.Ground.guard }], guard := some (32, true) }) (v := ?vv_165) rfl (by kernel_rfl) (by kernel_rfl) (by kernel_rfl) (fun _ _ _ h => h) (Or.inl ⟨by rfl, ?hyv_165⟩) (by assumption) ?rev_165
              case hyv_165 => (intro w hSw; (try dsimp only at hSw); go_simp; try with_reducible rfl)
              try simp only [Act.put, List.setIfInBounds_toArray, List.set_cons_zero, List.set_cons_succ]
              refine wpAnyH_take (i := 34) (oi := { dst := some 149, op := Go.Op.move (Go.Operand.tmp 10), type := 3, pos := "law.go:39", after := #[{ on := 32, ground := Go.Ground.guard }], guard := some (32, true) }) (v := ?vv_166) rfl (by kernel_rfl) (by kernel_rfl) (by kernel_rfl) (fun _ _ _ h => h) (Or.inl ⟨by rfl, ?hyv_166⟩) (by assumption) ?rev_166
              case hyv_166 => (intro w hSw; (try dsimp only at hSw); go_simp; try with_reducible rfl)
              try simp only [Act.put, List.setIfInBounds_toArray, List.set_cons_zero, List.set_cons_succ]
              refine wpAnyH_take (i := 35) (oi := { dst := some 150, op := Go.Op.binOp Go.BinOp.sub 3 (Go.Operand.tmp 149) (Go.Operand.const (Go.Value.int Go.IntKind.i64 1)) 3, type := 3, pos := "law.go:39", after := #[{ on := 34, ground := Go.Ground.data }, { on := 32, ground := Go.Ground.guard }], guard := some (32, true) }) (v := ?vv_167) rfl (by kernel_rfl) (by kernel_rfl) (by kernel_rfl) (fun _ _ _ h => h) (Or.inl ⟨by rfl, ?hyv_167⟩) (by assumption) ?rev_167
              case hyv_167 => (intro w hSw; (try dsimp only at hSw); go_simp; try with_reducible rfl)
              try simp only [Act.put, List.setIfInBounds_toArray, List.set_cons_zero, List.set_cons_succ]
              refine wpAnyH_take (i := 36) (oi := { dst := some 151, op := Go.Op.indexAddr 23 (Go.Operand.tmp 148) (Go.Operand.tmp 150), type := 0, pos := "law.go:39", after := #[{ on := 33, ground := Go.Ground.data }, { on := 35, ground := Go.Ground.data }, { on := 32, ground := Go.Ground.guard }], guard := some (32, true) }) (v := ?vv_168) rfl (by kernel_rfl) (by kernel_rfl) (by kernel_rfl) (fun _ _ _ h => h) (Or.inl ⟨by rfl, ?hyv_168⟩) (by assumption) ?rev_168
              case hyv_168 => (intro w hSw; (try dsimp only at hSw); go_simp; try with_reducible rfl)
              try simp only [Act.put, List.setIfInBounds_toArray, List.set_cons_zero, List.set_cons_succ]
              refine wpAnyH_take (i := 37) (oi := { dst := some 152, op := Go.Op.load 3 (Go.Operand.tmp 151), type := 3, pos := "law.go:39", after := #[{ on := 36, ground := Go.Ground.data }, { on := 32, ground := Go.Ground.guard }], guard := some (32, true) }) (v := ?vv_169) rfl (by kernel_rfl) (by kernel_rfl) (by kernel_rfl) (fun _ _ _ h => h) (Or.inl ⟨by rfl, ?hyv_169⟩) (by assumption) ?rev_169
              case hyv_169 => (intro w hSw; (try dsimp only at hSw); go_simp; try with_reducible rfl)
              try simp only [Act.put, List.setIfInBounds_toArray, List.set_cons_zero, List.set_cons_succ]
              refine wpAnyH_take (i := 38) (oi := { dst := some 153, op := Go.Op.move (Go.Operand.tmp 9), type := 23, pos := "law.go:39", after := #[{ on := 32, ground := Go.Ground.guard }], guard := some (32, true) }) (v := ?vv_170) rfl (by kernel_rfl) (by kernel_rfl) (by kernel_rfl) (fun _ _ _ h => h) (Or.inl ⟨by rfl, ?hyv_170⟩) (by assumption) ?rev_170
              case hyv_170 => (intro w hSw; (try dsimp only at hSw); go_simp; try with_reducible rfl)
              try simp only [Act.put, List.setIfInBounds_toArray, List.set_cons_zero, List.set_cons_succ]
              refine wpAnyH_take (i := 39) (oi := { dst := some 154, op := Go.Op.move (Go.Operand.tmp 10), type := 3, pos := "law.go:39", after := #[{ on := 32, ground := Go.Ground.guard }], guard := some (32, true) }) (v := ?vv_171) rfl (by kernel_rfl) (by kernel_rfl) (by kernel_rfl) (fun _ _ _ h => h) (Or.inl ⟨by rfl, ?hyv_171⟩) (by assumption) ?rev_171
              case hyv_171 => (intro w hSw; (try dsimp only at hSw); go_simp; try with_reducible rfl)
              try simp only [Act.put, List.setIfInBounds_toArray, List.set_cons_zero, List.set_cons_succ]
              refine wpAnyH_take (i := 40) (oi := { dst := some 155, op := Go.Op.indexAddr 23 (Go.Operand.tmp 153) (Go.Operand.tmp 154), type := 0, pos := "law.go:39", after := #[{ on := 38, ground := Go.Ground.data }, { on := 39, ground := Go.Ground.data }, { on := 32, ground := Go.Ground.guard }], guard := some (32, true) }) (v := ?vv_172) rfl (by kernel_rfl) (by kernel_rfl) (by kernel_rfl) (fun _ _ _ h => h) (Or.inl ⟨by rfl, ?hyv_172⟩) (by assumption) ?rev_172
              case hyv_172 => (intro w hSw; (try dsimp only at hSw); go_simp; try with_reducible rfl)
              try simp only [Act.put, List.setIfInBounds_toArray, List.set_cons_zero, List.set_cons_succ]
              refine wpAnyH_take (i := 41) (oi := { dst := some 156, op := Go.Op.load 3 (Go.Operand.tmp 155), type := 3, pos := "law.go:39", after := #[{ on := 40, ground := Go.Ground.data }, { on := 32, ground := Go.Ground.guard }], guard := some (32, true) }) (v := ?vv_173) rfl (by kernel_rfl) (by kernel_rfl) (by kernel_rfl) (fun _ _ _ h => h) (Or.inl ⟨by rfl, ?hyv_173⟩) (by assumption) ?rev_173
              case hyv_173 => (intro w hSw; (try dsimp only at hSw); go_simp; try with_reducible rfl)
              try simp only [Act.put, List.setIfInBounds_toArray, List.set_cons_zero, List.set_cons_succ]
              refine wpAnyH_take (i := 42) (oi := { dst := some 157, op := Go.Op.binOp Go.BinOp.geq 3 (Go.Operand.tmp 152) (Go.Operand.tmp 156) 3, type := 4, pos := "law.go:39", after := #[{ on := 37, ground := Go.Ground.data }, { on := 41, ground := Go.Ground.data }, { on := 32, ground := Go.Ground.guard }], guard := some (32, true) }) (v := ?vv_174) rfl (by kernel_rfl) (by kernel_rfl) (by kernel_rfl) (fun _ _ _ h => h) (Or.inl ⟨by rfl, ?hyv_174⟩) (by assumption) ?rev_174
              case hyv_174 => (intro w hSw; (try dsimp only at hSw); go_simp; try with_reducible rfl)
              try simp only [Act.put, List.setIfInBounds_toArray, List.set_cons_zero, List.set_cons_succ]
              refine wpAnyH_take (i := 43) (oi := { dst := some 158, op := Go.Op.pick (Go.Operand.tmp 147) (Go.Operand.tmp 157) (Go.Operand.const (Go.Value.bool false)), type := 4, pos := "law.go:39", after := #[{ on := 32, ground := Go.Ground.data }, { on := 42, ground := Go.Ground.data }, { on := 17, ground := Go.Ground.guard }], guard := some (17, false) }) (v := ?vv_175) rfl (by kernel_rfl) (by kernel_rfl) (by kernel_rfl) (fun _ _ _ h => h) (Or.inl ⟨by rfl, ?hyv_175⟩) (by assumption) ?rev_175
              case hyv_175 => (intro w hSw; (try dsimp only at hSw); go_simp; try with_reducible rfl)
              try simp only [Act.put, List.setIfInBounds_toArray, List.set_cons_zero, List.set_cons_succ]
              refine wpAnyH_take (i := 44) (oi := { dst := some 159, op := Go.Op.pick (Go.Operand.tmp 132) (Go.Operand.const (Go.Value.bool true)) (Go.Operand.tmp 158), type := 4, pos := "law.go:39", after := #[{ on := 17, ground := Go.Ground.data }, { on := 43, ground := Go.Ground.data }, { on := 2, ground := Go.Ground.guard }], guard := some (2, true) }) (v := ?vv_176) rfl (by kernel_rfl) (by kernel_rfl) (by kernel_rfl) (fun _ _ _ h => h) (Or.inl ⟨by rfl, ?hyv_176⟩) (by assumption) ?rev_176
              case hyv_176 => (intro w hSw; (try dsimp only at hSw); go_simp; try with_reducible rfl)
              try simp only [Act.put, List.setIfInBounds_toArray, List.set_cons_zero, List.set_cons_succ]
              refine wpAnyH_take (i := 45) (oi := { dst := some 160, op := Go.Op.pick (Go.Operand.tmp 117) (Go.Operand.tmp 159) (Go.Operand.const (Go.Value.bool false)), type := 4, pos := "law.go:39", after := #[{ on := 2, ground := Go.Ground.data }, { on := 44, ground := Go.Ground.data }], guard := none }) (v := ?vv_177) rfl (by kernel_rfl) (by kernel_rfl) (by kernel_rfl) (fun _ _ _ h => h) (Or.inl ⟨by rfl, ?hyv_177⟩) (by assumption) ?rev_177
              case hyv_177 => (intro w hSw; (try dsimp only at hSw); go_simp; try with_reducible rfl)
              try simp only [Act.put, List.setIfInBounds_toArray, List.set_cons_zero, List.set_cons_succ]
              refine wpAnyH_done (by kernel_rfl) ?dnv _
              go_wp2
              exact ⟨⟨i + 1, by go_num, by omega, (HM.out.below (by repeat (first | (with_reducible first | exact HB.out | apply below_alloc | apply pw_below_drewN | apply below_drew1) | exact HB.out))), ⟨HC6.out.1, (Kd.C_below HC6.out.2 (by repeat (first | (with_reducible first | exact HB.out | apply below_alloc | apply pw_below_drewN | apply below_drew1) | exact HB.out)))⟩, ⟨HC7.out.1, Kd.C_below HC7.out.2 (by repeat (first | (with_reducible first | exact HB.out | apply below_alloc | apply pw_below_drewN | apply below_drew1) | exact HB.out))⟩, HW.out.trans (Go.RowKit.Below.mono (by repeat (first | (with_reducible first | exact HB.out | apply below_alloc | apply pw_below_drewN | apply below_drew1) | exact HB.out)) HW.out.size)⟩, by simp only [intOf]; omega⟩
            · have hne1 : ¬ ((dpu : Int) = (dpv : Int)) := by omega
              have hne2 : ((dpu : Int) == (dpv : Int)) = false := beq_eq_false_iff_ne.mpr hne1
              have hne3 : (dpu == dpv) = false := beq_eq_false_iff_ne.mpr heq
              have hne4 : decide ((dpu : Int) = (dpv : Int)) = false := decide_eq_false hne1
              have hne5 : decide (dpu = dpv) = false := decide_eq_false heq
              go_wp2_with fail
              refine wp_region_held_drew (S := (fun w' => w'.cell? (ad7.add j) = some (.int .i64 (a : Int)) ∧ w'.cell? (ad7.add i) = some (.int .i64 (b : Int)))) (by kernel_rfl) ?s0y (fun hHeld => ?b0y)
              case s0y => (first | exact ⟨hxa, hxb⟩ | assumption | exact ⟨cell_below (by repeat (first | (with_reducible first | exact HB.out | apply below_alloc | apply pw_below_drewN | apply below_drew1) | exact HB.out)) hxa, cell_below (by repeat (first | (with_reducible first | exact HB.out | apply below_alloc | apply pw_below_drewN | apply below_drew1) | exact HB.out)) hxb⟩ | go_keep)
              refine wpAnyH_take (i := 0) (oi := { dst := some 115, op := Go.Op.move (Go.Operand.tmp 10), type := 3, pos := "law.go:39", after := #[], guard := none }) (v := ?vy_43) rfl (by kernel_rfl) (by kernel_rfl) (by kernel_rfl) (fun _ _ _ h => h) (Or.inl ⟨by rfl, ?hyy_43⟩) (by assumption) ?rey_43
              case hyy_43 => (intro w hSw; (try dsimp only at hSw); go_simp; try with_reducible rfl)
              try simp only [Act.put, List.setIfInBounds_toArray, List.set_cons_zero, List.set_cons_succ]
              refine wpAnyH_take (i := 1) (oi := { dst := some 116, op := Go.Op.binOp Go.BinOp.gtr 3 (Go.Operand.tmp 115) (Go.Operand.const (Go.Value.int Go.IntKind.i64 0)) 3, type := 4, pos := "law.go:39", after := #[{ on := 0, ground := Go.Ground.data }], guard := none }) (v := ?vy_44) rfl (by kernel_rfl) (by kernel_rfl) (by kernel_rfl) (fun _ _ _ h => h) (Or.inl ⟨by rfl, ?hyy_44⟩) (by assumption) ?rey_44
              case hyy_44 => (intro w hSw; (try dsimp only at hSw); go_simp; try with_reducible rfl)
              try simp only [Act.put, List.setIfInBounds_toArray, List.set_cons_zero, List.set_cons_succ]
              refine wpAnyH_take (i := 2) (oi := { dst := some 117, op := Go.Op.move (Go.Operand.tmp 116), type := 4, pos := "law.go:39", after := #[{ on := 1, ground := Go.Ground.data }], guard := none }) (v := ?vy_45) rfl (by kernel_rfl) (by kernel_rfl) (by kernel_rfl) (fun _ _ _ h => h) (Or.inl ⟨by rfl, ?hyy_45⟩) (by assumption) ?rey_45
              case hyy_45 => (intro w hSw; (try dsimp only at hSw); go_simp; try with_reducible rfl)
              try simp only [Act.put, List.setIfInBounds_toArray, List.set_cons_zero, List.set_cons_succ]
              refine wpAnyH_take (i := 3) (oi := { dst := some 118, op := Go.Op.move (Go.Operand.tmp 5), type := 48, pos := "law.go:39", after := #[{ on := 2, ground := Go.Ground.guard }], guard := some (2, true) }) (v := ?vy_46) rfl (by kernel_rfl) (by kernel_rfl) (by kernel_rfl) (fun _ _ _ h => h) (Or.inl ⟨by rfl, ?hyy_46⟩) (by assumption) ?rey_46
              case hyy_46 => (intro w hSw; (try dsimp only at hSw); go_simp; try with_reducible rfl)
              try simp only [Act.put, List.setIfInBounds_toArray, List.set_cons_zero, List.set_cons_succ]
              refine wpAnyH_take (i := 4) (oi := { dst := some 119, op := Go.Op.move (Go.Operand.tmp 9), type := 23, pos := "law.go:39", after := #[{ on := 2, ground := Go.Ground.guard }], guard := some (2, true) }) (v := ?vy_47) rfl (by kernel_rfl) (by kernel_rfl) (by kernel_rfl) (fun _ _ _ h => h) (Or.inl ⟨by rfl, ?hyy_47⟩) (by assumption) ?rey_47
              case hyy_47 => (intro w hSw; (try dsimp only at hSw); go_simp; try with_reducible rfl)
              try simp only [Act.put, List.setIfInBounds_toArray, List.set_cons_zero, List.set_cons_succ]
              refine wpAnyH_take (i := 5) (oi := { dst := some 120, op := Go.Op.move (Go.Operand.tmp 10), type := 3, pos := "law.go:39", after := #[{ on := 2, ground := Go.Ground.guard }], guard := some (2, true) }) (v := ?vy_48) rfl (by kernel_rfl) (by kernel_rfl) (by kernel_rfl) (fun _ _ _ h => h) (Or.inl ⟨by rfl, ?hyy_48⟩) (by assumption) ?rey_48
              case hyy_48 => (intro w hSw; (try dsimp only at hSw); go_simp; try with_reducible rfl)
              try simp only [Act.put, List.setIfInBounds_toArray, List.set_cons_zero, List.set_cons_succ]
              refine wpAnyH_take (i := 6) (oi := { dst := some 121, op := Go.Op.binOp Go.BinOp.sub 3 (Go.Operand.tmp 120) (Go.Operand.const (Go.Value.int Go.IntKind.i64 1)) 3, type := 3, pos := "law.go:39", after := #[{ on := 5, ground := Go.Ground.data }, { on := 2, ground := Go.Ground.guard }], guard := some (2, true) }) (v := ?vy_49) rfl (by kernel_rfl) (by kernel_rfl) (by kernel_rfl) (fun _ _ _ h => h) (Or.inl ⟨by rfl, ?hyy_49⟩) (by assumption) ?rey_49
              case hyy_49 => (intro w hSw; (try dsimp only at hSw); go_simp; try with_reducible rfl)
              try simp only [Act.put, List.setIfInBounds_toArray, List.set_cons_zero, List.set_cons_succ]
              refine wpAnyH_take (i := 7) (oi := { dst := some 122, op := Go.Op.indexAddr 23 (Go.Operand.tmp 119) (Go.Operand.tmp 121), type := 0, pos := "law.go:39", after := #[{ on := 4, ground := Go.Ground.data }, { on := 6, ground := Go.Ground.data }, { on := 2, ground := Go.Ground.guard }], guard := some (2, true) }) (v := ?vy_50) rfl (by kernel_rfl) (by kernel_rfl) (by kernel_rfl) (fun _ _ _ h => h) (Or.inl ⟨by rfl, ?hyy_50⟩) (by assumption) ?rey_50
              case hyy_50 => (intro w hSw; (try dsimp only at hSw); go_simp; try with_reducible rfl)
              try simp only [Act.put, List.setIfInBounds_toArray, List.set_cons_zero, List.set_cons_succ]
              refine wpAnyH_take (i := 8) (oi := { dst := some 123, op := Go.Op.load 3 (Go.Operand.tmp 122), type := 3, pos := "law.go:39", after := #[{ on := 7, ground := Go.Ground.data }, { on := 2, ground := Go.Ground.guard }], guard := some (2, true) }) (v := ?vy_51) rfl (by kernel_rfl) (by kernel_rfl) (by kernel_rfl) (fun _ _ _ h => h) (Or.inl ⟨by rfl, ?hyy_51⟩) (by assumption) ?rey_51
              case hyy_51 => (intro w hSw; (try dsimp only at hSw); go_simp; try with_reducible rfl)
              try simp only [Act.put, List.setIfInBounds_toArray, List.set_cons_zero, List.set_cons_succ]
              refine wpAnyH_take (i := 10) (oi := { dst := some 125, op := Go.Op.move (Go.Operand.tmp 5), type := 48, pos := "law.go:39", after := #[{ on := 2, ground := Go.Ground.guard }], guard := some (2, true) }) (v := ?vy_52) rfl (by kernel_rfl) (by kernel_rfl) (by kernel_rfl) (fun _ _ _ h => h) (Or.inl ⟨by rfl, ?hyy_52⟩) (by assumption) ?rey_52
              case hyy_52 => (intro w hSw; (try dsimp only at hSw); go_simp; try with_reducible rfl)
              try simp only [Act.put, List.setIfInBounds_toArray, List.set_cons_zero, List.set_cons_succ]
              refine wpAnyH_take (i := 11) (oi := { dst := some 126, op := Go.Op.move (Go.Operand.tmp 9), type := 23, pos := "law.go:39", after := #[{ on := 2, ground := Go.Ground.guard }], guard := some (2, true) }) (v := ?vy_53) rfl (by kernel_rfl) (by kernel_rfl) (by kernel_rfl) (fun _ _ _ h => h) (Or.inl ⟨by rfl, ?hyy_53⟩) (by assumption) ?rey_53
              case hyy_53 => (intro w hSw; (try dsimp only at hSw); go_simp; try with_reducible rfl)
              try simp only [Act.put, List.setIfInBounds_toArray, List.set_cons_zero, List.set_cons_succ]
              refine wpAnyH_take (i := 12) (oi := { dst := some 127, op := Go.Op.move (Go.Operand.tmp 10), type := 3, pos := "law.go:39", after := #[{ on := 2, ground := Go.Ground.guard }], guard := some (2, true) }) (v := ?vy_54) rfl (by kernel_rfl) (by kernel_rfl) (by kernel_rfl) (fun _ _ _ h => h) (Or.inl ⟨by rfl, ?hyy_54⟩) (by assumption) ?rey_54
              case hyy_54 => (intro w hSw; (try dsimp only at hSw); go_simp; try with_reducible rfl)
              try simp only [Act.put, List.setIfInBounds_toArray, List.set_cons_zero, List.set_cons_succ]
              refine wpAnyH_take (i := 13) (oi := { dst := some 128, op := Go.Op.indexAddr 23 (Go.Operand.tmp 126) (Go.Operand.tmp 127), type := 0, pos := "law.go:39", after := #[{ on := 11, ground := Go.Ground.data }, { on := 12, ground := Go.Ground.data }, { on := 2, ground := Go.Ground.guard }], guard := some (2, true) }) (v := ?vy_55) rfl (by kernel_rfl) (by kernel_rfl) (by kernel_rfl) (fun _ _ _ h => h) (Or.inl ⟨by rfl, ?hyy_55⟩) (by assumption) ?rey_55
              case hyy_55 => (intro w hSw; (try dsimp only at hSw); go_simp; try with_reducible rfl)
              try simp only [Act.put, List.setIfInBounds_toArray, List.set_cons_zero, List.set_cons_succ]
              refine wpAnyH_take (i := 14) (oi := { dst := some 129, op := Go.Op.load 3 (Go.Operand.tmp 128), type := 3, pos := "law.go:39", after := #[{ on := 13, ground := Go.Ground.data }, { on := 2, ground := Go.Ground.guard }], guard := some (2, true) }) (v := ?vy_56) rfl (by kernel_rfl) (by kernel_rfl) (by kernel_rfl) (fun _ _ _ h => h) (Or.inl ⟨by rfl, ?hyy_56⟩) (by assumption) ?rey_56
              case hyy_56 => (intro w hSw; (try dsimp only at hSw); go_simp; try with_reducible rfl)
              try simp only [Act.put, List.setIfInBounds_toArray, List.set_cons_zero, List.set_cons_succ]
              refine wpAnyH_ready (rs := [9]) (by kernel_rfl) (by simp) ?rdy_57
              refine AllReadyH.cons (o := { dst := some 124, op := Go.Op.call { callee := Go.Callee.value (Go.Operand.func 41), args := #[Go.Operand.tmp 118, Go.Operand.tmp 123], argTypes := #[48, 3] }, type := 3, pos := "law.go:39", after := #[{ on := 3, ground := Go.Ground.data }, { on := 8, ground := Go.Ground.data }, { on := 2, ground := Go.Ground.chain }, { on := 2, ground := Go.Ground.guard }], guard := some (2, true) }) rfl (fun K hK => ?sty_57) AllReadyH.nil
              (go_simp; go_at_call 41; refine (mdepth_n (HM.out.below (by repeat (first | (with_reducible first | exact HB.out | apply below_alloc | apply pw_below_drewN | apply below_drew1) | exact HB.out))) HIn.out HT.out.1 dpu HT.out.2.2.1).mono ?_; rintro e w8 ⟨rfl, hg⟩; have n_ := Aside0.mk (below_step (by repeat (first | (with_reducible first | exact HB.out | apply below_alloc | apply pw_below_drewN | apply below_drew1) | exact HB.out)) hg.below); clear HB; have HB := n_; clear n_; clear hg)
              refine hK.out _ _ ?hsy_57 (fun hHeld => ?rey_57)
              case hsy_57 => (first | exact ⟨hxa, hxb⟩ | assumption | exact ⟨cell_below (by repeat (first | (with_reducible first | exact HB.out | apply below_alloc | apply pw_below_drewN | apply below_drew1) | exact HB.out)) hxa, cell_below (by repeat (first | (with_reducible first | exact HB.out | apply below_alloc | apply pw_below_drewN | apply below_drew1) | exact HB.out)) hxb⟩ | go_keep)
              clear hK K
              try simp only [Act.put, List.setIfInBounds_toArray, List.set_cons_zero, List.set_cons_succ]
              refine wpAnyH_ready (rs := [15]) (by kernel_rfl) (by simp) ?rdy_58
              refine AllReadyH.cons (o := { dst := some 130, op := Go.Op.call { callee := Go.Callee.value (Go.Operand.func 41), args := #[Go.Operand.tmp 125, Go.Operand.tmp 129], argTypes := #[48, 3] }, type := 3, pos := "law.go:39", after := #[{ on := 10, ground := Go.Ground.data }, { on := 14, ground := Go.Ground.data }, { on := 9, ground := Go.Ground.chain }, { on := 2, ground := Go.Ground.guard }], guard := some (2, true) }) rfl (fun K hK => ?sty_58) AllReadyH.nil
              (go_simp; go_at_call 41; refine (mdepth_n (HM.out.below (by repeat (first | (with_reducible first | exact HB.out | apply below_alloc | apply pw_below_drewN | apply below_drew1) | exact HB.out))) HIn.out HT.out.2.1 dpv HT.out.2.2.2).mono ?_; rintro e w8 ⟨rfl, hg⟩; have n_ := Aside0.mk (below_step (by repeat (first | (with_reducible first | exact HB.out | apply below_alloc | apply pw_below_drewN | apply below_drew1) | exact HB.out)) hg.below); clear HB; have HB := n_; clear n_; clear hg)
              refine hK.out _ _ ?hsy_58 (fun hHeld => ?rey_58)
              case hsy_58 => (first | exact ⟨hxa, hxb⟩ | assumption | exact ⟨cell_below (by repeat (first | (with_reducible first | exact HB.out | apply below_alloc | apply pw_below_drewN | apply below_drew1) | exact HB.out)) hxa, cell_below (by repeat (first | (with_reducible first | exact HB.out | apply below_alloc | apply pw_below_drewN | apply below_drew1) | exact HB.out)) hxb⟩ | go_keep)
              clear hK K
              try simp only [Act.put, List.setIfInBounds_toArray, List.set_cons_zero, List.set_cons_succ]
              refine wpAnyH_take (i := 16) (oi := { dst := some 131, op := Go.Op.binOp Go.BinOp.gtr 3 (Go.Operand.tmp 124) (Go.Operand.tmp 130) 3, type := 4, pos := "law.go:39", after := #[{ on := 9, ground := Go.Ground.data }, { on := 15, ground := Go.Ground.data }, { on := 2, ground := Go.Ground.guard }], guard := some (2, true) }) (v := ?vy_59) rfl (by kernel_rfl) (by kernel_rfl) (by kernel_rfl) (fun _ _ _ h => h) (Or.inl ⟨by rfl, ?hyy_59⟩) (by assumption) ?rey_59
              case hyy_59 => (intro w hSw; (try dsimp only at hSw); go_simp; try with_reducible rfl)
              try simp only [Act.put, List.setIfInBounds_toArray, List.set_cons_zero, List.set_cons_succ]
              refine wpAnyH_take (i := 17) (oi := { dst := some 132, op := Go.Op.move (Go.Operand.tmp 131), type := 4, pos := "law.go:39", after := #[{ on := 16, ground := Go.Ground.data }, { on := 15, ground := Go.Ground.chain }, { on := 2, ground := Go.Ground.guard }], guard := some (2, true) }) (v := ?vy_60) rfl (by kernel_rfl) (by kernel_rfl) (by kernel_rfl) (fun _ _ _ h => h) (Or.inl ⟨by rfl, ?hyy_60⟩) (by assumption) ?rey_60
              case hyy_60 => (intro w hSw; (try dsimp only at hSw); go_simp; try with_reducible rfl)
              try simp only [Act.put, List.setIfInBounds_toArray, List.set_cons_zero, List.set_cons_succ]
              refine wpAnyH_take (i := 18) (oi := { dst := some 133, op := Go.Op.move (Go.Operand.tmp 5), type := 48, pos := "law.go:39", after := #[{ on := 17, ground := Go.Ground.guard }], guard := some (17, false) }) (v := ?vy_61) rfl (by kernel_rfl) (by kernel_rfl) (by kernel_rfl) (fun _ _ _ h => h) (Or.inl ⟨by rfl, ?hyy_61⟩) (by assumption) ?rey_61
              case hyy_61 => (intro w hSw; (try dsimp only at hSw); go_simp; try with_reducible rfl)
              try simp only [Act.put, List.setIfInBounds_toArray, List.set_cons_zero, List.set_cons_succ]
              refine wpAnyH_take (i := 19) (oi := { dst := some 134, op := Go.Op.move (Go.Operand.tmp 9), type := 23, pos := "law.go:39", after := #[{ on := 17, ground := Go.Ground.guard }], guard := some (17, false) }) (v := ?vy_62) rfl (by kernel_rfl) (by kernel_rfl) (by kernel_rfl) (fun _ _ _ h => h) (Or.inl ⟨by rfl, ?hyy_62⟩) (by assumption) ?rey_62
              case hyy_62 => (intro w hSw; (try dsimp only at hSw); go_simp; try with_reducible rfl)
              try simp only [Act.put, List.setIfInBounds_toArray, List.set_cons_zero, List.set_cons_succ]
              refine wpAnyH_take (i := 20) (oi := { dst := some 135, op := Go.Op.move (Go.Operand.tmp 10), type := 3, pos := "law.go:39", after := #[{ on := 17, ground := Go.Ground.guard }], guard := some (17, false) }) (v := ?vy_63) rfl (by kernel_rfl) (by kernel_rfl) (by kernel_rfl) (fun _ _ _ h => h) (Or.inl ⟨by rfl, ?hyy_63⟩) (by assumption) ?rey_63
              case hyy_63 => (intro w hSw; (try dsimp only at hSw); go_simp; try with_reducible rfl)
              try simp only [Act.put, List.setIfInBounds_toArray, List.set_cons_zero, List.set_cons_succ]
              refine wpAnyH_take (i := 21) (oi := { dst := some 136, op := Go.Op.binOp Go.BinOp.sub 3 (Go.Operand.tmp 135) (Go.Operand.const (Go.Value.int Go.IntKind.i64 1)) 3, type := 3, pos := "law.go:39", after := #[{ on := 20, ground := Go.Ground.data }, { on := 17, ground := Go.Ground.guard }], guard := some (17, false) }) (v := ?vy_64) rfl (by kernel_rfl) (by kernel_rfl) (by kernel_rfl) (fun _ _ _ h => h) (Or.inl ⟨by rfl, ?hyy_64⟩) (by assumption) ?rey_64
              case hyy_64 => (intro w hSw; (try dsimp only at hSw); go_simp; try with_reducible rfl)
              try simp only [Act.put, List.setIfInBounds_toArray, List.set_cons_zero, List.set_cons_succ]
              refine wpAnyH_take (i := 22) (oi := { dst := some 137, op := Go.Op.indexAddr 23 (Go.Operand.tmp 134) (Go.Operand.tmp 136), type := 0, pos := "law.go:39", after := #[{ on := 19, ground := Go.Ground.data }, { on := 21, ground := Go.Ground.data }, { on := 17, ground := Go.Ground.guard }], guard := some (17, false) }) (v := ?vy_65) rfl (by kernel_rfl) (by kernel_rfl) (by kernel_rfl) (fun _ _ _ h => h) (Or.inl ⟨by rfl, ?hyy_65⟩) (by assumption) ?rey_65
              case hyy_65 => (intro w hSw; (try dsimp only at hSw); go_simp; try with_reducible rfl)
              try simp only [Act.put, List.setIfInBounds_toArray, List.set_cons_zero, List.set_cons_succ]
              refine wpAnyH_take (i := 23) (oi := { dst := some 138, op := Go.Op.load 3 (Go.Operand.tmp 137), type := 3, pos := "law.go:39", after := #[{ on := 22, ground := Go.Ground.data }, { on := 17, ground := Go.Ground.guard }], guard := some (17, false) }) (v := ?vy_66) rfl (by kernel_rfl) (by kernel_rfl) (by kernel_rfl) (fun _ _ _ h => h) (Or.inl ⟨by rfl, ?hyy_66⟩) (by assumption) ?rey_66
              case hyy_66 => (intro w hSw; (try dsimp only at hSw); go_simp; try with_reducible rfl)
              try simp only [Act.put, List.setIfInBounds_toArray, List.set_cons_zero, List.set_cons_succ]
              refine wpAnyH_take (i := 25) (oi := { dst := some 140, op := Go.Op.move (Go.Operand.tmp 5), type := 48, pos := "law.go:39", after := #[{ on := 17, ground := Go.Ground.guard }], guard := some (17, false) }) (v := ?vy_67) rfl (by kernel_rfl) (by kernel_rfl) (by kernel_rfl) (fun _ _ _ h => h) (Or.inl ⟨by rfl, ?hyy_67⟩) (by assumption) ?rey_67
              case hyy_67 => (intro w hSw; (try dsimp only at hSw); go_simp; try with_reducible rfl)
              try simp only [Act.put, List.setIfInBounds_toArray, List.set_cons_zero, List.set_cons_succ]
              refine wpAnyH_take (i := 26) (oi := { dst := some 141, op := Go.Op.move (Go.Operand.tmp 9), type := 23, pos := "law.go:39", after := #[{ on := 17, ground := Go.Ground.guard }], guard := some (17, false) }) (v := ?vy_68) rfl (by kernel_rfl) (by kernel_rfl) (by kernel_rfl) (fun _ _ _ h => h) (Or.inl ⟨by rfl, ?hyy_68⟩) (by assumption) ?rey_68
              case hyy_68 => (intro w hSw; (try dsimp only at hSw); go_simp; try with_reducible rfl)
              try simp only [Act.put, List.setIfInBounds_toArray, List.set_cons_zero, List.set_cons_succ]
              refine wpAnyH_take (i := 27) (oi := { dst := some 142, op := Go.Op.move (Go.Operand.tmp 10), type := 3, pos := "law.go:39", after := #[{ on := 17, ground := Go.Ground.guard }], guard := some (17, false) }) (v := ?vy_69) rfl (by kernel_rfl) (by kernel_rfl) (by kernel_rfl) (fun _ _ _ h => h) (Or.inl ⟨by rfl, ?hyy_69⟩) (by assumption) ?rey_69
              case hyy_69 => (intro w hSw; (try dsimp only at hSw); go_simp; try with_reducible rfl)
              try simp only [Act.put, List.setIfInBounds_toArray, List.set_cons_zero, List.set_cons_succ]
              refine wpAnyH_take (i := 28) (oi := { dst := some 143, op := Go.Op.indexAddr 23 (Go.Operand.tmp 141) (Go.Operand.tmp 142), type := 0, pos := "law.go:39", after := #[{ on := 26, ground := Go.Ground.data }, { on := 27, ground := Go.Ground.data }, { on := 17, ground := Go.Ground.guard }], guard := some (17, false) }) (v := ?vy_70) rfl (by kernel_rfl) (by kernel_rfl) (by kernel_rfl) (fun _ _ _ h => h) (Or.inl ⟨by rfl, ?hyy_70⟩) (by assumption) ?rey_70
              case hyy_70 => (intro w hSw; (try dsimp only at hSw); go_simp; try with_reducible rfl)
              try simp only [Act.put, List.setIfInBounds_toArray, List.set_cons_zero, List.set_cons_succ]
              refine wpAnyH_take (i := 29) (oi := { dst := some 144, op := Go.Op.load 3 (Go.Operand.tmp 143), type := 3, pos := "law.go:39", after := #[{ on := 28, ground := Go.Ground.data }, { on := 17, ground := Go.Ground.guard }], guard := some (17, false) }) (v := ?vy_71) rfl (by kernel_rfl) (by kernel_rfl) (by kernel_rfl) (fun _ _ _ h => h) (Or.inl ⟨by rfl, ?hyy_71⟩) (by assumption) ?rey_71
              case hyy_71 => (intro w hSw; (try dsimp only at hSw); go_simp; try with_reducible rfl)
              try simp only [Act.put, List.setIfInBounds_toArray, List.set_cons_zero, List.set_cons_succ]
              refine wpAnyH_ready (rs := [24]) (by kernel_rfl) (by simp) ?rdy_72
              refine AllReadyH.cons (o := { dst := some 139, op := Go.Op.call { callee := Go.Callee.value (Go.Operand.func 41), args := #[Go.Operand.tmp 133, Go.Operand.tmp 138], argTypes := #[48, 3] }, type := 3, pos := "law.go:39", after := #[{ on := 18, ground := Go.Ground.data }, { on := 23, ground := Go.Ground.data }, { on := 17, ground := Go.Ground.chain }, { on := 17, ground := Go.Ground.guard }], guard := some (17, false) }) rfl (fun K hK => ?sty_72) AllReadyH.nil
              (go_simp; go_at_call 41; refine (mdepth_n (HM.out.below (by repeat (first | (with_reducible first | exact HB.out | apply below_alloc | apply pw_below_drewN | apply below_drew1) | exact HB.out))) HIn.out HT.out.1 dpu HT.out.2.2.1).mono ?_; rintro e w8 ⟨rfl, hg⟩; have n_ := Aside0.mk (below_step (by repeat (first | (with_reducible first | exact HB.out | apply below_alloc | apply pw_below_drewN | apply below_drew1) | exact HB.out)) hg.below); clear HB; have HB := n_; clear n_; clear hg)
              refine hK.out _ _ ?hsy_72 (fun hHeld => ?rey_72)
              case hsy_72 => (first | exact ⟨hxa, hxb⟩ | assumption | exact ⟨cell_below (by repeat (first | (with_reducible first | exact HB.out | apply below_alloc | apply pw_below_drewN | apply below_drew1) | exact HB.out)) hxa, cell_below (by repeat (first | (with_reducible first | exact HB.out | apply below_alloc | apply pw_below_drewN | apply below_drew1) | exact HB.out)) hxb⟩ | go_keep)
              clear hK K
              try simp only [Act.put, List.setIfInBounds_toArray, List.set_cons_zero, List.set_cons_succ]
              refine wpAnyH_ready (rs := [30]) (by kernel_rfl) (by simp) ?rdy_73
              refine AllReadyH.cons (o := { dst := some 145, op := Go.Op.call { callee := Go.Callee.value (Go.Operand.func 41), args := #[Go.Operand.tmp 140, Go.Operand.tmp 144], argTypes := #[48, 3] }, type := 3, pos := "law.go:39", after := #[{ on := 25, ground := Go.Ground.data }, { on := 29, ground := Go.Ground.data }, { on := 24, ground := Go.Ground.chain }, { on := 17, ground := Go.Ground.guard }], guard := some (17, false) }) rfl (fun K hK => ?sty_73) AllReadyH.nil
              (go_simp; go_at_call 41; refine (mdepth_n (HM.out.below (by repeat (first | (with_reducible first | exact HB.out | apply below_alloc | apply pw_below_drewN | apply below_drew1) | exact HB.out))) HIn.out HT.out.2.1 dpv HT.out.2.2.2).mono ?_; rintro e w8 ⟨rfl, hg⟩; have n_ := Aside0.mk (below_step (by repeat (first | (with_reducible first | exact HB.out | apply below_alloc | apply pw_below_drewN | apply below_drew1) | exact HB.out)) hg.below); clear HB; have HB := n_; clear n_; clear hg)
              refine hK.out _ _ ?hsy_73 (fun hHeld => ?rey_73)
              case hsy_73 => (first | exact ⟨hxa, hxb⟩ | assumption | exact ⟨cell_below (by repeat (first | (with_reducible first | exact HB.out | apply below_alloc | apply pw_below_drewN | apply below_drew1) | exact HB.out)) hxa, cell_below (by repeat (first | (with_reducible first | exact HB.out | apply below_alloc | apply pw_below_drewN | apply below_drew1) | exact HB.out)) hxb⟩ | go_keep)
              clear hK K
              try simp only [Act.put, List.setIfInBounds_toArray, List.set_cons_zero, List.set_cons_succ]
              refine wpAnyH_take (i := 31) (oi := { dst := some 146, op := Go.Op.binOp Go.BinOp.eql 3 (Go.Operand.tmp 139) (Go.Operand.tmp 145) 3, type := 4, pos := "law.go:39", after := #[{ on := 24, ground := Go.Ground.data }, { on := 30, ground := Go.Ground.data }, { on := 17, ground := Go.Ground.guard }], guard := some (17, false) }) (v := ?vy_74) rfl (by kernel_rfl) (by kernel_rfl) (by kernel_rfl) (fun _ _ _ h => h) (Or.inl ⟨by rfl, ?hyy_74⟩) (by assumption) ?rey_74
              case hyy_74 => (intro w hSw; (try dsimp only at hSw); go_simp; try with_reducible rfl)
              try simp only [Act.put, List.setIfInBounds_toArray, List.set_cons_zero, List.set_cons_succ]
              refine wpAnyH_take (i := 32) (oi := { dst := some 147, op := Go.Op.move (Go.Operand.tmp 146), type := 4, pos := "law.go:39", after := #[{ on := 31, ground := Go.Ground.data }, { on := 30, ground := Go.Ground.chain }, { on := 17, ground := Go.Ground.guard }], guard := some (17, false) }) (v := ?vy_75) rfl (by kernel_rfl) (by kernel_rfl) (by kernel_rfl) (fun _ _ _ h => h) (Or.inl ⟨by rfl, ?hyy_75⟩) (by assumption) ?rey_75
              case hyy_75 => (intro w hSw; (try dsimp only at hSw); go_simp; try with_reducible rfl)
              try simp only [Act.put, List.setIfInBounds_toArray, List.set_cons_zero, List.set_cons_succ]
              refine wpAnyH_take (i := 33) (oi := { dst := some 148, op := Go.Op.move (Go.Operand.tmp 9), type := 23, pos := "law.go:39", after := #[{ on := 32, ground := Go.Ground.guard }], guard := some (32, true) }) (v := undef) rfl (by kernel_rfl) (by kernel_rfl) (by kernel_rfl) (fun _ _ _ h => h) (Or.inr ⟨by rfl, rfl⟩) (by assumption) ?rey_76
              try simp only [Act.put, List.setIfInBounds_toArray, List.set_cons_zero, List.set_cons_succ]
              refine wpAnyH_take (i := 34) (oi := { dst := some 149, op := Go.Op.move (Go.Operand.tmp 10), type := 3, pos := "law.go:39", after := #[{ on := 32, ground := Go.Ground.guard }], guard := some (32, true) }) (v := undef) rfl (by kernel_rfl) (by kernel_rfl) (by kernel_rfl) (fun _ _ _ h => h) (Or.inr ⟨by rfl, rfl⟩) (by assumption) ?rey_77
              try simp only [Act.put, List.setIfInBounds_toArray, List.set_cons_zero, List.set_cons_succ]
              refine wpAnyH_take (i := 35) (oi := { dst := some 150, op := Go.Op.binOp Go.BinOp.sub 3 (Go.Operand.tmp 149) (Go.Operand.const (Go.Value.int Go.IntKind.i64 1)) 3, type := 3, pos := "law.go:39", after := #[{ on := 34, ground := Go.Ground.data }, { on := 32, ground := Go.Ground.guard }], guard := some (32, true) }) (v := undef) rfl (by kernel_rfl) (by kernel_rfl) (by kernel_rfl) (fun _ _ _ h => h) (Or.inr ⟨by rfl, rfl⟩) (by assumption) ?rey_78
              try simp only [Act.put, List.setIfInBounds_toArray, List.set_cons_zero, List.set_cons_succ]
              refine wpAnyH_take (i := 36) (oi := { dst := some 151, op := Go.Op.indexAddr 23 (Go.Operand.tmp 148) (Go.Operand.tmp 150), type := 0, pos := "law.go:39", after := #[{ on := 33, ground := Go.Ground.data }, { on := 35, ground := Go.Ground.data }, { on := 32, ground := Go.Ground.guard }], guard := some (32, true) }) (v := undef) rfl (by kernel_rfl) (by kernel_rfl) (by kernel_rfl) (fun _ _ _ h => h) (Or.inr ⟨by rfl, rfl⟩) (by assumption) ?rey_79
              try simp only [Act.put, List.setIfInBounds_toArray, List.set_cons_zero, List.set_cons_succ]
              refine wpAnyH_take (i := 37) (oi := { dst := some 152, op := Go.Op.load 3 (Go.Operand.tmp 151), type := 3, pos := "law.go:39", after := #[{ on := 36, ground := Go.Ground.data }, { on := 32, ground := Go.Ground.guard }], guard := some (32, true) }) (v := undef) rfl (by kernel_rfl) (by kernel_rfl) (by kernel_rfl) (fun _ _ _ h => h) (Or.inr ⟨by rfl, rfl⟩) (by assumption) ?rey_80
              try simp only [Act.put, List.setIfInBounds_toArray, List.set_cons_zero, List.set_cons_succ]
              refine wpAnyH_take (i := 38) (oi := { dst := some 153, op := Go.Op.move (Go.Operand.tmp 9), type := 23, pos := "law.go:39", after := #[{ on := 32, ground := Go.Ground.guard }], guard := some (32, true) }) (v := undef) rfl (by kernel_rfl) (by kernel_rfl) (by kernel_rfl) (fun _ _ _ h => h) (Or.inr ⟨by rfl, rfl⟩) (by assumption) ?rey_81
              try simp only [Act.put, List.setIfInBounds_toArray, List.set_cons_zero, List.set_cons_succ]
              refine wpAnyH_take (i := 39) (oi := { dst := some 154, op := Go.Op.move (Go.Operand.tmp 10), type := 3, pos := "law.go:39", after := #[{ on := 32, ground := Go.Ground.guard }], guard := some (32, true) }) (v := undef) rfl (by kernel_rfl) (by kernel_rfl) (by kernel_rfl) (fun _ _ _ h => h) (Or.inr ⟨by rfl, rfl⟩) (by assumption) ?rey_82
              try simp only [Act.put, List.setIfInBounds_toArray, List.set_cons_zero, List.set_cons_succ]
              refine wpAnyH_take (i := 40) (oi := { dst := some 155, op := Go.Op.indexAddr 23 (Go.Operand.tmp 153) (Go.Operand.tmp 154), type := 0, pos := "law.go:39", after := #[{ on := 38, ground := Go.Ground.data }, { on := 39, ground := Go.Ground.data }, { on := 32, ground := Go.Ground.guard }], guard := some (32, true) }) (v := undef) rfl (by kernel_rfl) (by kernel_rfl) (by kernel_rfl) (fun _ _ _ h => h) (Or.inr ⟨by rfl, rfl⟩) (by assumption) ?rey_83
              try simp only [Act.put, List.setIfInBounds_toArray, List.set_cons_zero, List.set_cons_succ]
              refine wpAnyH_take (i := 41) (oi := { dst := some 156, op := Go.Op.load 3 (Go.Operand.tmp 155), type := 3, pos := "law.go:39", after := #[{ on := 40, ground := Go.Ground.data }, { on := 32, ground := Go.Ground.guard }], guard := some (32, true) }) (v := undef) rfl (by kernel_rfl) (by kernel_rfl) (by kernel_rfl) (fun _ _ _ h => h) (Or.inr ⟨by rfl, rfl⟩) (by assumption) ?rey_84
              try simp only [Act.put, List.setIfInBounds_toArray, List.set_cons_zero, List.set_cons_succ]
              refine wpAnyH_take (i := 42) (oi := { dst := some 157, op := Go.Op.binOp Go.BinOp.geq 3 (Go.Operand.tmp 152) (Go.Operand.tmp 156) 3, type := 4, pos := "law.go:39", after := #[{ on := 37, ground := Go.Ground.data }, { on := 41, ground := Go.Ground.data }, { on := 32, ground := Go.Ground.guard }], guard := some (32, true) }) (v := undef) rfl (by kernel_rfl) (by kernel_rfl) (by kernel_rfl) (fun _ _ _ h => h) (Or.inr ⟨by rfl, rfl⟩) (by assumption) ?rey_85
              try simp only [Act.put, List.setIfInBounds_toArray, List.set_cons_zero, List.set_cons_succ]
              refine wpAnyH_take (i := 43) (oi := { dst := some 158, op := Go.Op.pick (Go.Operand.tmp 147) (Go.Operand.tmp 157) (Go.Operand.const (Go.Value.bool false)), type := 4, pos := "law.go:39", after := #[{ on := 32, ground := Go.Ground.data }, { on := 42, ground := Go.Ground.data }, { on := 17, ground := Go.Ground.guard }], guard := some (17, false) }) (v := ?vy_86) rfl (by kernel_rfl) (by kernel_rfl) (by kernel_rfl) (fun _ _ _ h => h) (Or.inl ⟨by rfl, ?hyy_86⟩) (by assumption) ?rey_86
              case hyy_86 => (intro w hSw; (try dsimp only at hSw); go_simp; try with_reducible rfl)
              try simp only [Act.put, List.setIfInBounds_toArray, List.set_cons_zero, List.set_cons_succ]
              refine wpAnyH_take (i := 44) (oi := { dst := some 159, op := Go.Op.pick (Go.Operand.tmp 132) (Go.Operand.const (Go.Value.bool true)) (Go.Operand.tmp 158), type := 4, pos := "law.go:39", after := #[{ on := 17, ground := Go.Ground.data }, { on := 43, ground := Go.Ground.data }, { on := 2, ground := Go.Ground.guard }], guard := some (2, true) }) (v := ?vy_87) rfl (by kernel_rfl) (by kernel_rfl) (by kernel_rfl) (fun _ _ _ h => h) (Or.inl ⟨by rfl, ?hyy_87⟩) (by assumption) ?rey_87
              case hyy_87 => (intro w hSw; (try dsimp only at hSw); go_simp; try with_reducible rfl)
              try simp only [Act.put, List.setIfInBounds_toArray, List.set_cons_zero, List.set_cons_succ]
              refine wpAnyH_take (i := 45) (oi := { dst := some 160, op := Go.Op.pick (Go.Operand.tmp 117) (Go.Operand.tmp 159) (Go.Operand.const (Go.Value.bool false)), type := 4, pos := "law.go:39", after := #[{ on := 2, ground := Go.Ground.data }, { on := 44, ground := Go.Ground.data }], guard := none }) (v := ?vy_88) rfl (by kernel_rfl) (by kernel_rfl) (by kernel_rfl) (fun _ _ _ h => h) (Or.inl ⟨by rfl, ?hyy_88⟩) (by assumption) ?rey_88
              case hyy_88 => (intro w hSw; (try dsimp only at hSw); go_simp; try with_reducible rfl)
              try simp only [Act.put, List.setIfInBounds_toArray, List.set_cons_zero, List.set_cons_succ]
              refine wpAnyH_done (by kernel_rfl) ?dny _
              go_wp2
              exact ⟨⟨i + 1, by go_num, by omega, (HM.out.below (by repeat (first | (with_reducible first | exact HB.out | apply below_alloc | apply pw_below_drewN | apply below_drew1) | exact HB.out))), ⟨HC6.out.1, (Kd.C_below HC6.out.2 (by repeat (first | (with_reducible first | exact HB.out | apply below_alloc | apply pw_below_drewN | apply below_drew1) | exact HB.out)))⟩, ⟨HC7.out.1, Kd.C_below HC7.out.2 (by repeat (first | (with_reducible first | exact HB.out | apply below_alloc | apply pw_below_drewN | apply below_drew1) | exact HB.out))⟩, HW.out.trans (Go.RowKit.Below.mono (by repeat (first | (with_reducible first | exact HB.out | apply below_alloc | apply pw_below_drewN | apply below_drew1) | exact HB.out)) HW.out.size)⟩, by simp only [intOf]; omega⟩
          · have d0 : decide ((0 : Int) < (i : Int)) = false := decide_eq_false (by omega)
            have d0n : decide (0 < i) = false := decide_eq_false h0
            clear h0
            go_wp2_with (first | (go_at_call 43; refine (mfail_any (HM.out.below (by repeat (first | (with_reducible first | exact HB.out | apply below_alloc | apply pw_below_drewN | apply below_drew1) | exact HB.out))) HIn.out (i : Int) (q : Int) HQ.out.1).mono ?_; rintro e w8 ⟨rfl, hg⟩; have n_ := Aside0.mk (below_step (by repeat (first | (with_reducible first | exact HB.out | apply below_alloc | apply pw_below_drewN | apply below_drew1) | exact HB.out)) hg.below); clear HB; have HB := n_; clear n_; clear hg))
            refine wp_region_held_drew (S := (fun w' => w'.cell? (ad6.add i) = some (.slice A6i u.length c6i))) (by kernel_rfl) ?s0x (fun hHeld => ?b0x)
            case s0x => (first | exact hx6 | assumption | exact cell_below HB.out hx6 | exact cell_below (by repeat (first | (with_reducible first | exact HB.out | apply below_alloc | apply pw_below_drewN | apply below_drew1) | exact HB.out)) hx6 | go_keep)
            refine wpAnyH_take (i := 0) (oi := { dst := some 74, op := Go.Op.move (Go.Operand.tmp 11), type := 3, pos := "law.go:36", after := #[], guard := none }) (v := ?vx_1) rfl (by kernel_rfl) (by kernel_rfl) (by kernel_rfl) (fun _ _ _ h => h) (Or.inl ⟨by rfl, ?hyx_1⟩) (by assumption) ?rex_1
            case hyx_1 => (intro w hSw; (try dsimp only at hSw); go_simp; try with_reducible rfl)
            try simp only [Act.put, List.setIfInBounds_toArray, List.set_cons_zero, List.set_cons_succ]
            refine wpAnyH_take (i := 1) (oi := { dst := some 75, op := Go.Op.move (Go.Operand.tmp 8), type := 45, pos := "law.go:36", after := #[], guard := none }) (v := ?vx_2) rfl (by kernel_rfl) (by kernel_rfl) (by kernel_rfl) (fun _ _ _ h => h) (Or.inl ⟨by rfl, ?hyx_2⟩) (by assumption) ?rex_2
            case hyx_2 => (intro w hSw; (try dsimp only at hSw); go_simp; try with_reducible rfl)
            try simp only [Act.put, List.setIfInBounds_toArray, List.set_cons_zero, List.set_cons_succ]
            refine wpAnyH_take (i := 2) (oi := { dst := some 76, op := Go.Op.move (Go.Operand.tmp 10), type := 3, pos := "law.go:36", after := #[], guard := none }) (v := ?vx_3) rfl (by kernel_rfl) (by kernel_rfl) (by kernel_rfl) (fun _ _ _ h => h) (Or.inl ⟨by rfl, ?hyx_3⟩) (by assumption) ?rex_3
            case hyx_3 => (intro w hSw; (try dsimp only at hSw); go_simp; try with_reducible rfl)
            try simp only [Act.put, List.setIfInBounds_toArray, List.set_cons_zero, List.set_cons_succ]
            refine wpAnyH_ready (rs := [3]) (by kernel_rfl) (by simp) ?rdx_4
            refine AllReadyH.cons (o := { dst := some 77, op := Go.Op.call { callee := Go.Callee.value (Go.Operand.func 44), args := #[Go.Operand.tmp 75, Go.Operand.tmp 76], argTypes := #[45, 3] }, type := 3, pos := "law.go:36", after := #[{ on := 1, ground := Go.Ground.data }, { on := 2, ground := Go.Ground.data }], guard := none }) rfl (fun K hK => ?stx_4) AllReadyH.nil
            (go_simp; go_at_call 44; refine (paronymref23_Fail.calls 6000000 (some ad6) c6 (textsOf l) (i : Int) (q : Int) _ (Kd.C_below HC6.out.2 (by repeat (first | (with_reducible first | exact HB.out | apply below_alloc | apply pw_below_drewN | apply below_drew1) | exact HB.out))) HC6.out.1 (by rw [HQ.out.1]; exact rfail_any (kl_trie HIn.out).1 (kl_trie HIn.out).2.2.2.1 _ (by omega))).mono ?_; rintro e w8 ⟨rfl, ⟨nd, rfl⟩⟩)
            refine hK.out _ _ ?hsx_4 (fun hHeld => ?rex_4)
            case hsx_4 => (first | exact hx6 | assumption | exact cell_below HB.out hx6 | exact cell_below (by repeat (first | (with_reducible first | exact HB.out | apply below_alloc | apply pw_below_drewN | apply below_drew1) | exact HB.out)) hx6 | go_keep)
            clear hK K
            try simp only [Act.put, List.setIfInBounds_toArray, List.set_cons_zero, List.set_cons_succ]
            refine wpAnyH_take (i := 4) (oi := { dst := some 78, op := Go.Op.binOp Go.BinOp.neq 3 (Go.Operand.tmp 74) (Go.Operand.tmp 77) 3, type := 4, pos := "law.go:36", after := #[{ on := 0, ground := Go.Ground.data }, { on := 3, ground := Go.Ground.data }], guard := none }) (v := ?vx_5) rfl (by kernel_rfl) (by kernel_rfl) (by kernel_rfl) (fun _ _ _ h => h) (Or.inl ⟨by rfl, ?hyx_5⟩) (by assumption) ?rex_5
            case hyx_5 => (intro w hSw; (try dsimp only at hSw); go_simp; try with_reducible rfl)
            try simp only [Act.put, List.setIfInBounds_toArray, List.set_cons_zero, List.set_cons_succ]
            refine wpAnyH_take (i := 5) (oi := { dst := some 79, op := Go.Op.move (Go.Operand.tmp 78), type := 4, pos := "law.go:36", after := #[{ on := 4, ground := Go.Ground.data }, { on := 3, ground := Go.Ground.chain }], guard := none }) (v := ?vx_6) rfl (by kernel_rfl) (by kernel_rfl) (by kernel_rfl) (fun _ _ _ h => h) (Or.inl ⟨by rfl, ?hyx_6⟩) (by assumption) ?rex_6
            case hyx_6 => (intro w hSw; (try dsimp only at hSw); go_simp; try with_reducible rfl)
            try simp only [Act.put, List.setIfInBounds_toArray, List.set_cons_zero, List.set_cons_succ]
            refine wpAnyH_take (i := 6) (oi := { dst := some 80, op := Go.Op.move (Go.Operand.tmp 10), type := 3, pos := "law.go:36", after := #[{ on := 5, ground := Go.Ground.guard }], guard := some (5, false) }) (v := ?vx_7) rfl (by kernel_rfl) (by kernel_rfl) (by kernel_rfl) (fun _ _ _ h => h) (Or.inl ⟨by rfl, ?hyx_7⟩) (by assumption) ?rex_7
            case hyx_7 => (intro w hSw; (try dsimp only at hSw); go_simp; try with_reducible rfl)
            try simp only [Act.put, List.setIfInBounds_toArray, List.set_cons_zero, List.set_cons_succ]
            refine wpAnyH_take (i := 7) (oi := { dst := some 81, op := Go.Op.binOp Go.BinOp.gtr 3 (Go.Operand.tmp 80) (Go.Operand.const (Go.Value.int Go.IntKind.i64 0)) 3, type := 4, pos := "law.go:36", after := #[{ on := 6, ground := Go.Ground.data }, { on := 5, ground := Go.Ground.guard }], guard := some (5, false) }) (v := ?vx_8) rfl (by kernel_rfl) (by kernel_rfl) (by kernel_rfl) (fun _ _ _ h => h) (Or.inl ⟨by rfl, ?hyx_8⟩) (by assumption) ?rex_8
            case hyx_8 => (intro w hSw; (try dsimp only at hSw); go_simp; try with_reducible rfl)
            try simp only [Act.put, List.setIfInBounds_toArray, List.set_cons_zero, List.set_cons_succ]
            refine wpAnyH_take (i := 8) (oi := { dst := some 82, op := Go.Op.move (Go.Operand.tmp 81), type := 4, pos := "law.go:36", after := #[{ on := 7, ground := Go.Ground.data }, { on := 5, ground := Go.Ground.chain }, { on := 5, ground := Go.Ground.guard }], guard := some (5, false) }) (v := ?vx_9) rfl (by kernel_rfl) (by kernel_rfl) (by kernel_rfl) (fun _ _ _ h => h) (Or.inl ⟨by rfl, ?hyx_9⟩) (by assumption) ?rex_9
            case hyx_9 => (intro w hSw; (try dsimp only at hSw); go_simp; try with_reducible rfl)
            try simp only [Act.put, List.setIfInBounds_toArray, List.set_cons_zero, List.set_cons_succ]
            refine wpAnyH_take (i := 9) (oi := { dst := some 83, op := Go.Op.move (Go.Operand.tmp 5), type := 48, pos := "law.go:36", after := #[{ on := 8, ground := Go.Ground.guard }], guard := some (8, true) }) (v := undef) rfl (by kernel_rfl) (by kernel_rfl) (by kernel_rfl) (fun _ _ _ h => h) (Or.inr ⟨by rfl, rfl⟩) (by assumption) ?rex_10
            try simp only [Act.put, List.setIfInBounds_toArray, List.set_cons_zero, List.set_cons_succ]
            refine wpAnyH_take (i := 10) (oi := { dst := some 84, op := Go.Op.move (Go.Operand.tmp 11), type := 3, pos := "law.go:36", after := #[{ on := 8, ground := Go.Ground.guard }], guard := some (8, true) }) (v := undef) rfl (by kernel_rfl) (by kernel_rfl) (by kernel_rfl) (fun _ _ _ h => h) (Or.inr ⟨by rfl, rfl⟩) (by assumption) ?rex_11
            try simp only [Act.put, List.setIfInBounds_toArray, List.set_cons_zero, List.set_cons_succ]
            refine wpAnyH_take (i := 12) (oi := { dst := some 86, op := Go.Op.move (Go.Operand.tmp 5), type := 48, pos := "law.go:36", after := #[{ on := 8, ground := Go.Ground.guard }], guard := some (8, true) }) (v := undef) rfl (by kernel_rfl) (by kernel_rfl) (by kernel_rfl) (fun _ _ _ h => h) (Or.inr ⟨by rfl, rfl⟩) (by assumption) ?rex_12
            try simp only [Act.put, List.setIfInBounds_toArray, List.set_cons_zero, List.set_cons_succ]
            refine wpAnyH_take (i := 13) (oi := { dst := some 87, op := Go.Op.move (Go.Operand.tmp 10), type := 3, pos := "law.go:36", after := #[{ on := 8, ground := Go.Ground.guard }], guard := some (8, true) }) (v := undef) rfl (by kernel_rfl) (by kernel_rfl) (by kernel_rfl) (fun _ _ _ h => h) (Or.inr ⟨by rfl, rfl⟩) (by assumption) ?rex_13
            try simp only [Act.put, List.setIfInBounds_toArray, List.set_cons_zero, List.set_cons_succ]
            refine wpAnyH_ready (rs := [11]) (by kernel_rfl) (by simp) ?rdx_14
            refine AllReadyH.cons (o := { dst := some 85, op := Go.Op.call { callee := Go.Callee.value (Go.Operand.func 41), args := #[Go.Operand.tmp 83, Go.Operand.tmp 84], argTypes := #[48, 3] }, type := 3, pos := "law.go:36", after := #[{ on := 9, ground := Go.Ground.data }, { on := 10, ground := Go.Ground.data }, { on := 8, ground := Go.Ground.chain }, { on := 8, ground := Go.Ground.guard }], guard := some (8, true) }) rfl (fun K hK => ?stx_14) AllReadyH.nil
            go_simp
            refine hK.out _ _ ?hsx_14 (fun hHeld => ?rex_14)
            case hsx_14 => (first | exact hx6 | assumption | exact cell_below HB.out hx6 | exact cell_below (by repeat (first | (with_reducible first | exact HB.out | apply below_alloc | apply pw_below_drewN | apply below_drew1) | exact HB.out)) hx6 | go_keep)
            clear hK K
            try simp only [Act.put, List.setIfInBounds_toArray, List.set_cons_zero, List.set_cons_succ]
            refine wpAnyH_ready (rs := [14]) (by kernel_rfl) (by simp) ?rdx_15
            refine AllReadyH.cons (o := { dst := some 88, op := Go.Op.call { callee := Go.Callee.value (Go.Operand.func 41), args := #[Go.Operand.tmp 86, Go.Operand.tmp 87], argTypes := #[48, 3] }, type := 3, pos := "law.go:36", after := #[{ on := 12, ground := Go.Ground.data }, { on := 13, ground := Go.Ground.data }, { on := 11, ground := Go.Ground.chain }, { on := 8, ground := Go.Ground.guard }], guard := some (8, true) }) rfl (fun K hK => ?stx_15) AllReadyH.nil
            go_simp
            refine hK.out _ _ ?hsx_15 (fun hHeld => ?rex_15)
            case hsx_15 => (first | exact hx6 | assumption | exact cell_below HB.out hx6 | exact cell_below (by repeat (first | (with_reducible first | exact HB.out | apply below_alloc | apply pw_below_drewN | apply below_drew1) | exact HB.out)) hx6 | go_keep)
            clear hK K
            try simp only [Act.put, List.setIfInBounds_toArray, List.set_cons_zero, List.set_cons_succ]
            refine wpAnyH_take (i := 15) (oi := { dst := some 89, op := Go.Op.binOp Go.BinOp.geq 3 (Go.Operand.tmp 85) (Go.Operand.tmp 88) 3, type := 4, pos := "law.go:36", after := #[{ on := 11, ground := Go.Ground.data }, { on := 14, ground := Go.Ground.data }, { on := 8, ground := Go.Ground.guard }], guard := some (8, true) }) (v := undef) rfl (by kernel_rfl) (by kernel_rfl) (by kernel_rfl) (fun _ _ _ h => h) (Or.inr ⟨by rfl, rfl⟩) (by assumption) ?rex_16
            try simp only [Act.put, List.setIfInBounds_toArray, List.set_cons_zero, List.set_cons_succ]
            refine wpAnyH_take (i := 16) (oi := { dst := some 90, op := Go.Op.pick (Go.Operand.tmp 82) (Go.Operand.tmp 89) (Go.Operand.const (Go.Value.bool false)), type := 4, pos := "law.go:36", after := #[{ on := 8, ground := Go.Ground.data }, { on := 15, ground := Go.Ground.data }, { on := 5, ground := Go.Ground.guard }], guard := some (5, false) }) (v := ?vx_17) rfl (by kernel_rfl) (by kernel_rfl) (by kernel_rfl) (fun _ _ _ h => h) (Or.inl ⟨by rfl, ?hyx_17⟩) (by assumption) ?rex_17
            case hyx_17 => (intro w hSw; (try dsimp only at hSw); go_simp; try with_reducible rfl)
            try simp only [Act.put, List.setIfInBounds_toArray, List.set_cons_zero, List.set_cons_succ]
            refine wpAnyH_take (i := 17) (oi := { dst := some 91, op := Go.Op.pick (Go.Operand.tmp 79) (Go.Operand.const (Go.Value.bool true)) (Go.Operand.tmp 90), type := 4, pos := "law.go:36", after := #[{ on := 5, ground := Go.Ground.data }, { on := 16, ground := Go.Ground.data }], guard := none }) (v := ?vx_18) rfl (by kernel_rfl) (by kernel_rfl) (by kernel_rfl) (fun _ _ _ h => h) (Or.inl ⟨by rfl, ?hyx_18⟩) (by assumption) ?rex_18
            case hyx_18 => (intro w hSw; (try dsimp only at hSw); go_simp; try with_reducible rfl)
            try simp only [Act.put, List.setIfInBounds_toArray, List.set_cons_zero, List.set_cons_succ]
            refine wpAnyH_take (i := 18) (oi := { dst := some 92, op := Go.Op.move (Go.Operand.tmp 91), type := 4, pos := "law.go:36", after := #[{ on := 17, ground := Go.Ground.data }, { on := 14, ground := Go.Ground.chain }], guard := none }) (v := ?vx_19) rfl (by kernel_rfl) (by kernel_rfl) (by kernel_rfl) (fun _ _ _ h => h) (Or.inl ⟨by rfl, ?hyx_19⟩) (by assumption) ?rex_19
            case hyx_19 => (intro w hSw; (try dsimp only at hSw); go_simp; try with_reducible rfl)
            try simp only [Act.put, List.setIfInBounds_toArray, List.set_cons_zero, List.set_cons_succ]
            refine wpAnyH_take (i := 19) (oi := { dst := some 93, op := Go.Op.move (Go.Operand.tmp 7), type := 52, pos := "law.go:36", after := #[{ on := 18, ground := Go.Ground.guard }], guard := some (18, false) }) (v := ?vx_20) rfl (by kernel_rfl) (by kernel_rfl) (by kernel_rfl) (fun _ _ _ h => h) (Or.inl ⟨by rfl, ?hyx_20⟩) (by assumption) ?rex_20
            case hyx_20 => (intro w hSw; (try dsimp only at hSw); go_simp; try with_reducible rfl)
            try simp only [Act.put, List.setIfInBounds_toArray, List.set_cons_zero, List.set_cons_succ]
            refine wpAnyH_take (i := 20) (oi := { dst := some 94, op := Go.Op.move (Go.Operand.tmp 10), type := 3, pos := "law.go:36", after := #[{ on := 18, ground := Go.Ground.guard }], guard := some (18, false) }) (v := ?vx_21) rfl (by kernel_rfl) (by kernel_rfl) (by kernel_rfl) (fun _ _ _ h => h) (Or.inl ⟨by rfl, ?hyx_21⟩) (by assumption) ?rex_21
            case hyx_21 => (intro w hSw; (try dsimp only at hSw); go_simp; try with_reducible rfl)
            try simp only [Act.put, List.setIfInBounds_toArray, List.set_cons_zero, List.set_cons_succ]
            refine wpAnyH_take (i := 22) (oi := { dst := some 96, op := Go.Op.move (Go.Operand.tmp 0), type := 45, pos := "law.go:36", after := #[{ on := 18, ground := Go.Ground.guard }], guard := some (18, false) }) (v := ?vx_22) rfl (by kernel_rfl) (by kernel_rfl) (by kernel_rfl) (fun _ _ _ h => h) (Or.inl ⟨by rfl, ?hyx_22⟩) (by assumption) ?rex_22
            case hyx_22 => (intro w hSw; (try dsimp only at hSw); go_simp; try with_reducible rfl)
            try simp only [Act.put, List.setIfInBounds_toArray, List.set_cons_zero, List.set_cons_succ]
            refine wpAnyH_take (i := 23) (oi := { dst := some 97, op := Go.Op.move (Go.Operand.tmp 8), type := 45, pos := "law.go:36", after := #[{ on := 18, ground := Go.Ground.guard }], guard := some (18, false) }) (v := ?vx_23) rfl (by kernel_rfl) (by kernel_rfl) (by kernel_rfl) (fun _ _ _ h => h) (Or.inl ⟨by rfl, ?hyx_23⟩) (by assumption) ?rex_23
            case hyx_23 => (intro w hSw; (try dsimp only at hSw); go_simp; try with_reducible rfl)
            try simp only [Act.put, List.setIfInBounds_toArray, List.set_cons_zero, List.set_cons_succ]
            refine wpAnyH_take (i := 24) (oi := { dst := some 98, op := Go.Op.move (Go.Operand.tmp 10), type := 3, pos := "law.go:36", after := #[{ on := 18, ground := Go.Ground.guard }], guard := some (18, false) }) (v := ?vx_24) rfl (by kernel_rfl) (by kernel_rfl) (by kernel_rfl) (fun _ _ _ h => h) (Or.inl ⟨by rfl, ?hyx_24⟩) (by assumption) ?rex_24
            case hyx_24 => (intro w hSw; (try dsimp only at hSw); go_simp; try with_reducible rfl)
            try simp only [Act.put, List.setIfInBounds_toArray, List.set_cons_zero, List.set_cons_succ]
            refine wpAnyH_ready (rs := [21]) (by kernel_rfl) (by simp) ?rdx_25
            refine AllReadyH.cons (o := { dst := some 95, op := Go.Op.call { callee := Go.Callee.value (Go.Operand.func 45), args := #[Go.Operand.tmp 93, Go.Operand.tmp 94], argTypes := #[52, 3] }, type := 3, pos := "law.go:36", after := #[{ on := 19, ground := Go.Ground.data }, { on := 20, ground := Go.Ground.data }, { on := 18, ground := Go.Ground.chain }, { on := 18, ground := Go.Ground.guard }], guard := some (18, false) }) rfl (fun K hK => ?stx_25) AllReadyH.nil
            (go_simp; go_at_call 45; refine (mout_any (HM.out.below (by repeat (first | (with_reducible first | exact HB.out | apply below_alloc | apply pw_below_drewN | apply below_drew1) | exact HB.out))) HIn.out (i : Int) ov HQ.out.2.2.2.2.2).mono ?_; rintro e w8 ⟨rfl, hg⟩; have n_ := Aside0.mk (below_step (by repeat (first | (with_reducible first | exact HB.out | apply below_alloc | apply pw_below_drewN | apply below_drew1) | exact HB.out)) hg.below); clear HB; have HB := n_; clear n_; clear hg)
            refine hK.out _ _ ?hsx_25 (fun hHeld => ?rex_25)
            case hsx_25 => (first | exact hx6 | assumption | exact cell_below HB.out hx6 | exact cell_below (by repeat (first | (with_reducible first | exact HB.out | apply below_alloc | apply pw_below_drewN | apply below_drew1) | exact HB.out)) hx6 | go_keep)
            clear hK K
            try simp only [Act.put, List.setIfInBounds_toArray, List.set_cons_zero, List.set_cons_succ]
            refine wpAnyH_ready (rs := [25]) (by kernel_rfl) (by simp) ?rdx_26
            refine AllReadyH.cons (o := { dst := some 99, op := Go.Op.call { callee := Go.Callee.value (Go.Operand.func 46), args := #[Go.Operand.tmp 96, Go.Operand.tmp 97, Go.Operand.tmp 98], argTypes := #[45, 45, 3] }, type := 3, pos := "law.go:36", after := #[{ on := 22, ground := Go.Ground.data }, { on := 23, ground := Go.Ground.data }, { on := 24, ground := Go.Ground.data }, { on := 21, ground := Go.Ground.chain }, { on := 18, ground := Go.Ground.guard }], guard := some (18, false) }) rfl (fun K hK => ?stx_26) AllReadyH.nil
            (go_simp; go_at_call 46; refine (paronymref23_Out.calls 6000000 A c l (some ad6) c6 (textsOf l) (i : Int) ov _ (Kd.V_reads' (Kd.V_below HVr.out (by repeat (first | (with_reducible first | exact HB.out | apply below_alloc | apply pw_below_drewN | apply below_drew1) | exact HB.out)))).2.2 (Kd.V_reads' HV.out).2.1 (Kd.C_below HC6.out.2 (by repeat (first | (with_reducible first | exact HB.out | apply below_alloc | apply pw_below_drewN | apply below_drew1) | exact HB.out))) HC6.out.1 (by rw [HQ.out.2.2.2.2.2]; exact rout_f (kl_trie HIn.out).1 (kl_trie HIn.out).2.2.2.1 HIn.out.bnd.1 _ (by omega))).mono ?_; rintro e w8 ⟨rfl, hb⟩; have n_ := Aside0.mk (below_step (by repeat (first | (with_reducible first | exact HB.out | apply below_alloc | apply pw_below_drewN | apply below_drew1) | exact HB.out)) hb); clear HB; have HB := n_; clear n_; clear hb)
            refine hK.out _ _ ?hsx_26 (fun hHeld => ?rex_26)
            case hsx_26 => (first | exact hx6 | assumption | exact cell_below HB.out hx6 | exact cell_below (by repeat (first | (with_reducible first | exact HB.out | apply below_alloc | apply pw_below_drewN | apply below_drew1) | exact HB.out)) hx6 | go_keep)
            clear hK K
            try simp only [Act.put, List.setIfInBounds_toArray, List.set_cons_zero, List.set_cons_succ]
            refine wpAnyH_take (i := 26) (oi := { dst := some 100, op := Go.Op.binOp Go.BinOp.neq 3 (Go.Operand.tmp 95) (Go.Operand.tmp 99) 3, type := 4, pos := "law.go:36", after := #[{ on := 21, ground := Go.Ground.data }, { on := 25, ground := Go.Ground.data }, { on := 18, ground := Go.Ground.guard }], guard := some (18, false) }) (v := ?vx_27) rfl (by kernel_rfl) (by kernel_rfl) (by kernel_rfl) (fun _ _ _ h => h) (Or.inl ⟨by rfl, ?hyx_27⟩) (by assumption) ?rex_27
            case hyx_27 => (intro w hSw; (try dsimp only at hSw); go_simp; try with_reducible rfl)
            try simp only [Act.put, List.setIfInBounds_toArray, List.set_cons_zero, List.set_cons_succ]
            refine wpAnyH_take (i := 27) (oi := { dst := some 101, op := Go.Op.pick (Go.Operand.tmp 92) (Go.Operand.const (Go.Value.bool true)) (Go.Operand.tmp 100), type := 4, pos := "law.go:36", after := #[{ on := 18, ground := Go.Ground.data }, { on := 26, ground := Go.Ground.data }], guard := none }) (v := ?vx_28) rfl (by kernel_rfl) (by kernel_rfl) (by kernel_rfl) (fun _ _ _ h => h) (Or.inl ⟨by rfl, ?hyx_28⟩) (by assumption) ?rex_28
            case hyx_28 => (intro w hSw; (try dsimp only at hSw); go_simp; try with_reducible rfl)
            try simp only [Act.put, List.setIfInBounds_toArray, List.set_cons_zero, List.set_cons_succ]
            refine wpAnyH_take (i := 28) (oi := { dst := some 102, op := Go.Op.move (Go.Operand.tmp 101), type := 4, pos := "law.go:36", after := #[{ on := 27, ground := Go.Ground.data }, { on := 25, ground := Go.Ground.chain }], guard := none }) (v := ?vx_29) rfl (by kernel_rfl) (by kernel_rfl) (by kernel_rfl) (fun _ _ _ h => h) (Or.inl ⟨by rfl, ?hyx_29⟩) (by assumption) ?rex_29
            case hyx_29 => (intro w hSw; (try dsimp only at hSw); go_simp; try with_reducible rfl)
            try simp only [Act.put, List.setIfInBounds_toArray, List.set_cons_zero, List.set_cons_succ]
            refine wpAnyH_take (i := 29) (oi := { dst := some 103, op := Go.Op.move (Go.Operand.tmp 7), type := 52, pos := "law.go:36", after := #[{ on := 28, ground := Go.Ground.guard }], guard := some (28, false) }) (v := ?vx_30) rfl (by kernel_rfl) (by kernel_rfl) (by kernel_rfl) (fun _ _ _ h => h) (Or.inl ⟨by rfl, ?hyx_30⟩) (by assumption) ?rex_30
            case hyx_30 => (intro w hSw; (try dsimp only at hSw); go_simp; try with_reducible rfl)
            try simp only [Act.put, List.setIfInBounds_toArray, List.set_cons_zero, List.set_cons_succ]
            refine wpAnyH_take (i := 30) (oi := { dst := some 104, op := Go.Op.move (Go.Operand.tmp 10), type := 3, pos := "law.go:36", after := #[{ on := 28, ground := Go.Ground.guard }], guard := some (28, false) }) (v := ?vx_31) rfl (by kernel_rfl) (by kernel_rfl) (by kernel_rfl) (fun _ _ _ h => h) (Or.inl ⟨by rfl, ?hyx_31⟩) (by assumption) ?rex_31
            case hyx_31 => (intro w hSw; (try dsimp only at hSw); go_simp; try with_reducible rfl)
            try simp only [Act.put, List.setIfInBounds_toArray, List.set_cons_zero, List.set_cons_succ]
            refine wpAnyH_take (i := 32) (oi := { dst := some 106, op := Go.Op.move (Go.Operand.tmp 0), type := 45, pos := "law.go:36", after := #[{ on := 28, ground := Go.Ground.guard }], guard := some (28, false) }) (v := ?vx_32) rfl (by kernel_rfl) (by kernel_rfl) (by kernel_rfl) (fun _ _ _ h => h) (Or.inl ⟨by rfl, ?hyx_32⟩) (by assumption) ?rex_32
            case hyx_32 => (intro w hSw; (try dsimp only at hSw); go_simp; try with_reducible rfl)
            try simp only [Act.put, List.setIfInBounds_toArray, List.set_cons_zero, List.set_cons_succ]
            refine wpAnyH_take (i := 33) (oi := { dst := some 107, op := Go.Op.move (Go.Operand.tmp 8), type := 45, pos := "law.go:36", after := #[{ on := 28, ground := Go.Ground.guard }], guard := some (28, false) }) (v := ?vx_33) rfl (by kernel_rfl) (by kernel_rfl) (by kernel_rfl) (fun _ _ _ h => h) (Or.inl ⟨by rfl, ?hyx_33⟩) (by assumption) ?rex_33
            case hyx_33 => (intro w hSw; (try dsimp only at hSw); go_simp; try with_reducible rfl)
            try simp only [Act.put, List.setIfInBounds_toArray, List.set_cons_zero, List.set_cons_succ]
            refine wpAnyH_take (i := 34) (oi := { dst := some 108, op := Go.Op.move (Go.Operand.tmp 10), type := 3, pos := "law.go:36", after := #[{ on := 28, ground := Go.Ground.guard }], guard := some (28, false) }) (v := ?vx_34) rfl (by kernel_rfl) (by kernel_rfl) (by kernel_rfl) (fun _ _ _ h => h) (Or.inl ⟨by rfl, ?hyx_34⟩) (by assumption) ?rex_34
            case hyx_34 => (intro w hSw; (try dsimp only at hSw); go_simp; try with_reducible rfl)
            try simp only [Act.put, List.setIfInBounds_toArray, List.set_cons_zero, List.set_cons_succ]
            refine wpAnyH_take (i := 35) (oi := { dst := some 109, op := Go.Op.indexAddr 45 (Go.Operand.tmp 107) (Go.Operand.tmp 108), type := 0, pos := "law.go:36", after := #[{ on := 33, ground := Go.Ground.data }, { on := 34, ground := Go.Ground.data }, { on := 28, ground := Go.Ground.guard }], guard := some (28, false) }) (v := ?vx_35) rfl (by kernel_rfl) (by kernel_rfl) (by kernel_rfl) (fun _ _ _ h => h) (Or.inl ⟨by rfl, ?hyx_35⟩) (by assumption) ?rex_35
            case hyx_35 => (intro w hSw; (try dsimp only at hSw); go_simp; try with_reducible rfl)
            try simp only [Act.put, List.setIfInBounds_toArray, List.set_cons_zero, List.set_cons_succ]
            refine wpAnyH_take (i := 36) (oi := { dst := some 110, op := Go.Op.load 23 (Go.Operand.tmp 109), type := 23, pos := "law.go:36", after := #[{ on := 35, ground := Go.Ground.data }, { on := 28, ground := Go.Ground.guard }], guard := some (28, false) }) (v := ?vx_36) rfl (by kernel_rfl) (by kernel_rfl) (by kernel_rfl) (fun _ _ _ h => h) (Or.inl ⟨by rfl, ?hyx_36⟩) (by assumption) ?rex_36
            case hyx_36 => (intro w hSw; (try dsimp only at hSw); go_simp; try with_reducible rfl)
            try simp only [Act.put, List.setIfInBounds_toArray, List.set_cons_zero, List.set_cons_succ]
            refine wpAnyH_ready (rs := [31]) (by kernel_rfl) (by simp) ?rdx_37
            refine AllReadyH.cons (o := { dst := some 105, op := Go.Op.call { callee := Go.Callee.value (Go.Operand.func 47), args := #[Go.Operand.tmp 103, Go.Operand.tmp 104], argTypes := #[52, 3] }, type := 23, pos := "law.go:36", after := #[{ on := 29, ground := Go.Ground.data }, { on := 30, ground := Go.Ground.data }, { on := 28, ground := Go.Ground.chain }, { on := 28, ground := Go.Ground.guard }], guard := some (28, false) }) rfl (fun K hK => ?stx_37) AllReadyH.nil
            (go_simp; go_at_call 47; refine (mpat_at (HM.out.below (by repeat (first | (with_reducible first | exact HB.out | apply below_alloc | apply pw_below_drewN | apply below_drew1) | exact HB.out))) HIn.out HEm.out HQ.out.2.2.2.1).mono ?_; rintro e w8 ⟨v8, rfl, hR, hb⟩; obtain ⟨A8, c8, rfl, hl8, hC8⟩ := Kd.R_reads hR; have HC8 := Aside0.mk (And.intro hl8 hC8); have n_ := Aside0.mk (below_step (by repeat (first | (with_reducible first | exact HB.out | apply below_alloc | apply pw_below_drewN | apply below_drew1) | exact HB.out)) hb); clear HB; have HB := n_; clear n_; clear hb hR hl8 hC8)
            refine hK.out _ _ ?hsx_37 (fun hHeld => ?rex_37)
            case hsx_37 => (first | exact hx6 | assumption | exact cell_below HB.out hx6 | exact cell_below (by repeat (first | (with_reducible first | exact HB.out | apply below_alloc | apply pw_below_drewN | apply below_drew1) | exact HB.out)) hx6 | go_keep)
            clear hK K
            try simp only [Act.put, List.setIfInBounds_toArray, List.set_cons_zero, List.set_cons_succ]
            refine wpAnyH_ready (rs := [37]) (by kernel_rfl) (by simp) ?rdx_38
            refine AllReadyH.cons (o := { dst := some 111, op := Go.Op.call { callee := Go.Callee.value (Go.Operand.func 48), args := #[Go.Operand.tmp 106, Go.Operand.tmp 110], argTypes := #[45, 23] }, type := 23, pos := "law.go:36", after := #[{ on := 32, ground := Go.Ground.data }, { on := 36, ground := Go.Ground.data }, { on := 31, ground := Go.Ground.chain }, { on := 28, ground := Go.Ground.guard }], guard := some (28, false) }) rfl (fun K hK => ?stx_38) AllReadyH.nil
            (go_simp; go_at_call 48; refine (paronymref23_Patterns.calls 6000000 A c l A6i c6i u (patT 0 l u) _ (Kd.V_reads' (Kd.V_below HVr.out (by repeat (first | (with_reducible first | exact HB.out | apply below_alloc | apply pw_below_drewN | apply below_drew1) | exact HB.out)))).2.2 (Kd.V_reads' HV.out).2.1 (Kd.C_below HCi.out.2 (by repeat (first | (with_reducible first | exact HB.out | apply below_alloc | apply pw_below_drewN | apply below_drew1) | exact HB.out))) HCi.out.1 (rpat_f HIn.out.bnd.1 ((kl_trie HIn.out).2.2.2.1.2 u (List.mem_of_getElem? HQ.out.2.2.2.1)) (by omega))).mono ?_; rintro e w9 ⟨v9, rfl, hR, hb⟩; obtain ⟨A9, c9, rfl, hl9, hC9⟩ := Kd.R_reads hR; have HC9 := Aside0.mk (And.intro hl9 hC9); have m_ := Aside0.mk (And.intro HC8.out.1 (Kd.C_below HC8.out.2 hb)); clear HC8; have HC8 := m_; clear m_; have n_ := Aside0.mk (below_step (by repeat (first | (with_reducible first | exact HB.out | apply below_alloc | apply pw_below_drewN | apply below_drew1) | exact HB.out)) hb); clear HB; have HB := n_; clear n_; clear hb hR hl9 hC9)
            refine hK.out _ _ ?hsx_38 (fun hHeld => ?rex_38)
            case hsx_38 => (first | exact hx6 | assumption | exact cell_below HB.out hx6 | exact cell_below (by repeat (first | (with_reducible first | exact HB.out | apply below_alloc | apply pw_below_drewN | apply below_drew1) | exact HB.out)) hx6 | go_keep)
            clear hK K
            try simp only [Act.put, List.setIfInBounds_toArray, List.set_cons_zero, List.set_cons_succ]
            refine wpAnyH_ready (rs := [38]) (by kernel_rfl) (by simp) ?rdx_39
            refine AllReadyH.cons (o := { dst := some 112, op := Go.Op.call { callee := Go.Callee.value (Go.Operand.func 18), args := #[Go.Operand.tmp 105, Go.Operand.tmp 111], argTypes := #[23, 23] }, type := 4, pos := "law.go:36", after := #[{ on := 31, ground := Go.Ground.data }, { on := 37, ground := Go.Ground.data }, { on := 37, ground := Go.Ground.chain }, { on := 28, ground := Go.Ground.guard }], guard := some (28, false) }) rfl (fun K hK => ?stx_39) AllReadyH.nil
            (go_simp; go_at_call 18; refine (paronymref01_Same.calls 6000000 A8 c8 (patT 0 l u) A9 c9 (patT 0 l u) true _ (by repeat (first | exact HC8.out.2 | apply Kd.C_drewN | apply Kd.C_alloc | apply Kd.C_drew)) HC8.out.1 (by repeat (first | exact HC9.out.2 | apply Kd.C_drewN | apply Kd.C_alloc | apply Kd.C_drew)) HC9.out.1 (by rw [RefS.ref_same _ _ (pat_len HIn.out u) (pat_len HIn.out u) _ (by have := pat_len HIn.out u; omega)]; simp)).mono ?_; rintro e w8 ⟨rfl, ⟨nd, rfl⟩⟩)
            refine hK.out _ _ ?hsx_39 (fun hHeld => ?rex_39)
            case hsx_39 => (first | exact hx6 | assumption | exact cell_below HB.out hx6 | exact cell_below (by repeat (first | (with_reducible first | exact HB.out | apply below_alloc | apply pw_below_drewN | apply below_drew1) | exact HB.out)) hx6 | go_keep)
            clear hK K
            try simp only [Act.put, List.setIfInBounds_toArray, List.set_cons_zero, List.set_cons_succ]
            refine wpAnyH_take (i := 39) (oi := { dst := some 113, op := Go.Op.unOp Go.UnOp.not 4 (Go.Operand.tmp 112), type := 4, pos := "law.go:36", after := #[{ on := 38, ground := Go.Ground.data }, { on := 28, ground := Go.Ground.guard }], guard := some (28, false) }) (v := ?vx_40) rfl (by kernel_rfl) (by kernel_rfl) (by kernel_rfl) (fun _ _ _ h => h) (Or.inl ⟨by rfl, ?hyx_40⟩) (by assumption) ?rex_40
            case hyx_40 => (intro w hSw; (try dsimp only at hSw); go_simp; try with_reducible rfl)
            try simp only [Act.put, List.setIfInBounds_toArray, List.set_cons_zero, List.set_cons_succ]
            refine wpAnyH_take (i := 40) (oi := { dst := some 114, op := Go.Op.pick (Go.Operand.tmp 102) (Go.Operand.const (Go.Value.bool true)) (Go.Operand.tmp 113), type := 4, pos := "law.go:36", after := #[{ on := 28, ground := Go.Ground.data }, { on := 39, ground := Go.Ground.data }], guard := none }) (v := ?vx_41) rfl (by kernel_rfl) (by kernel_rfl) (by kernel_rfl) (fun _ _ _ h => h) (Or.inl ⟨by rfl, ?hyx_41⟩) (by assumption) ?rex_41
            case hyx_41 => (intro w hSw; (try dsimp only at hSw); go_simp; try with_reducible rfl)
            try simp only [Act.put, List.setIfInBounds_toArray, List.set_cons_zero, List.set_cons_succ]
            refine wpAnyH_done (by kernel_rfl) ?dnx _
            go_wp2_with fail
            go_quiet (fail)
            go_wp2
            exact ⟨⟨i + 1, by go_num, by omega, (HM.out.below (by repeat (first | (with_reducible first | exact HB.out | apply below_alloc | apply pw_below_drewN | apply below_drew1) | exact HB.out))), ⟨HC6.out.1, (Kd.C_below HC6.out.2 (by repeat (first | (with_reducible first | exact HB.out | apply below_alloc | apply pw_below_drewN | apply below_drew1) | exact HB.out)))⟩, ⟨HC7.out.1, Kd.C_below HC7.out.2 (by repeat (first | (with_reducible first | exact HB.out | apply below_alloc | apply pw_below_drewN | apply below_drew1) | exact HB.out))⟩, HW.out.trans (Go.RowKit.Below.mono (by repeat (first | (with_reducible first | exact HB.out | apply below_alloc | apply pw_below_drewN | apply below_drew1) | exact HB.out)) HW.out.size)⟩, by simp only [intOf]; omega⟩
        · have il : ¬ ((i : Int) < ((textsOf l).length : Int)) := by omega
          go_wp2
          go_ret
          exact ⟨rfl, HW.out⟩
end Go.Proofs.Ytgfmplhpoblleaa.FailW
end
