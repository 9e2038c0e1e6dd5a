/- The statement MatchStreams, walked. -/
import Derived.Test.YtgfmplhpoblleaaMB13
namespace Go.Proofs.Ytgfmplhpoblleaa.FailW
open Go.RowKit Go.Shelf Go.Lib Go.Proofs Go.Proofs.YtgfmplhpoblleaaW.PrintWords Go.Proofs.YtgfmplhpoblleaaW.PrintLast Go.Proofs.YtgfmplhpoblleaaW.PrintMore Go.Proofs.Ytgfmplhpoblleaa.PRank Go.Proofs.Ytgfmplhpoblleaa.PFB Go.Proofs.Ytgfmplhpoblleaa.RankW Go.Proofs.Ytgfmplhpoblleaa.SortOwn Go.Proofs.Ytgfmplhpoblleaa
open Go.Proofs.Ytgfmplhpoblleaa.Cmps hiding dedup
set_option linter.unusedVariables false
set_option linter.unusedSimpArgs false

attribute [local go_sem] Oper.semAt_some
attribute [local go_sem high] eqA71
attribute [local go_sem] max2_int min2_int max_two min_two
theorem results_cell_bool {fn : Func} {p : Tmp} (h : fn.results = #[.cell p 4]) (tmps : Array Value) (w : World) (a : Addr) (b : Bool)
    (hp : tmps.getD p undef = .pointer (some a)) (hg : w.cell? a = some (.bool b)) :
    (results fn tmps).run Try.prog w = .ok (.bool b) w := by
  have hp' : tmps[p]?.getD undef = .pointer (some a) := by simpa using hp
  have hu := Try.underlying4
  simp [results, h, hp', asAddr]
  go_simp
set_option maxHeartbeats 4000000 in
set_option maxRecDepth 100000 in
theorem stream_calls2 {w0 w : World} {g : Nat} {p t : Addr} {l : List (List Int)} {s : St} {vl : Value} {at_ rd tk : Int} (hM : Mt w0 w g p t l s vl (lens l) at_ rd tk) (hl : In 20 l) (he : l.any (·.isEmpty) = false) (A : Option Addr) (c : Nat) (tx : List Int) (hC : Kd.C (Kd.int .i64) w A tx.length tx) (htx : tx.length ≤ 300) :
    Calls Try.prog 53 #[.pointer (some ⟨g, 0, none⟩), .slice A tx.length c] w fun e w' => ∃ (B1 B2 : Nat) (K : Nat → Prop), e = .returned (.func (.func 94) #[] #[.pointer (some ⟨B1, 0, none⟩), .pointer (some ⟨B2, 0, none⟩)]) ∧ Go.RowKit.Below w.heap.size w w' ∧ (∀ b, K b → b < w'.heap.size ∧ (w.heap.size ≤ b ∨ vl.ownBlock = some b)) ∧
      SeqOwn 3 Try.prog 94 #[.pointer (some ⟨B1, 0, none⟩), .pointer (some ⟨B2, 0, none⟩)] encH w0.heap.size K (fun _ => False) (hitsAll l [] tx) w' := by
  have H := Aside0.mk (And.intro hM (And.intro hl (And.intro he hC)))
  clear hM hl he hC
  go_enter Try.func53, Try.ntmps53
  go_wp2_with ((go_at_call 87; refine (clone_ints A c tx _ (Kd.C_below H.out.2.2.2 (((Grows.refl w).alloc _).alloc _).below) (by omega)).mono ?_; rintro e w3 ⟨v, rfl, hv, hb3⟩; obtain ⟨A3, c3, rfl⟩ := Kd.R_slice hv; have k3 : w3.heap[w.heap.size + 1]? = some (.cells #[.slice A tx.length c] 23 (0, 0)) := (hb3.block _ (by simp)).trans (by have := heap_alloc_new (w.alloc (.cells #[.pointer (some ⟨g, 0, none⟩)] 65)) (.cells #[.slice A tx.length c] 23); rw [World.size_alloc] at this; exact this); have z3 := blk_frozen k3 0; have y3 : w3.cell? ⟨w.heap.size + 1, 0, none⟩ = some (.slice A tx.length c) := (blk_cell k3 0).trans rfl; have K3 := Aside0.mk k3; have G3 := Aside0.mk (And.intro hv hb3); clear hv hb3 k3))
  go_ret
  obtain ⟨W4, hW4⟩ : ∃ W4, W4 = w3.setCell ⟨w.heap.size + 1, 0, none⟩ (.slice A3 tx.length c3) := ⟨_, rfl⟩
  rw [← hW4]
  have s3 : w.heap.size + 2 ≤ w3.heap.size := by have := G3.out.2.size; simp at this; omega
  have hw3 : Go.RowKit.Below w.heap.size w w3 := (((Grows.refl w).alloc _).alloc _).below.trans (G3.out.2.mono (by simp; omega))
  have b4 : Go.RowKit.Below w.heap.size w W4 := by rw [hW4]; exact hw3.setCell (p := ⟨w.heap.size + 1, 0, none⟩) (by show w.heap.size ≤ w.heap.size + 1; omega) _
  have g4 : w3.grownBy W4 (some (w.heap.size + 1)) := by rw [hW4]; exact grownBy_set w3 ⟨w.heap.size + 1, 0, none⟩ _
  have m4 : Mt w0 W4 g p t l s vl (lens l) at_ rd tk := H.out.1.below b4
  have sz : w.heap.size ≤ w0.heap.size ∨ True := .inr trivial
  have hs4 : W4.heap.size = w3.heap.size := by rw [hW4]; simp [World.setCell, World.putObj]
  have c1 : W4.cell? ⟨w.heap.size, 0, none⟩ = some (.pointer (some ⟨g, 0, none⟩)) := by
    have h1 : w3.heap[w.heap.size]? = some (.cells #[.pointer (some ⟨g, 0, none⟩)] 65 (0, 0)) := (G3.out.2.block _ (by simp; omega)).trans ((Go.RowKit.Below.heap_alloc _ _ _ (by simp)).trans (heap_alloc_new _ _))
    rw [hW4]
    exact cell_set_far ((blk_cell h1 0).trans rfl) (by show w.heap.size ≠ w.heap.size + 1; omega)
  have c2 : W4.cell? ⟨w.heap.size + 1, 0, none⟩ = some (.slice A3 tx.length c3) := by
    have h1 := blk_set K3.out 0 (.slice A3 tx.length c3)
    rw [← hW4] at h1
    exact (blk_cell h1 0).trans rfl
  have hbase : w0.heap.size ≤ w.heap.size := H.out.1.bw.size
  have own3 := Kd.own_of_R G3.out.1
  have own4 : W4.ownsRow w0.heap.size 3 1 (.slice A3 tx.length c3) tx.length (encI tx) := by
    have h1 := Kd.R_lower G3.out.1 (show w0.heap.size ≤ _ from by simp; omega)
    refine own_other (Kd.own_of_R h1) g4 ?_
    exact own_ne_blk (Kd.own_of_R h1) K3.out (by decide)
  refine ⟨w.heap.size, w.heap.size + 1, _, rfl, b4, ?_, stream_own m4 H.out.2.1 H.out.2.2.1 w.heap.size (w.heap.size + 1) A3 c3 tx htx c1 c2 own4⟩
  intro b hb
  rcases hb with hb | hb
  · exact ⟨own_lt own4 b hb, .inl (Nat.le_trans (by simp; omega) (own_base (Kd.own_of_R G3.out.1) b hb))⟩
  · exact ⟨own_lt m4.ln b hb, .inr hb⟩
/-- What the round's writes leave: the count alone has turned. -/
def strI (Wr : World) (B : Nat) (Z : Nat → Prop) (k : Nat) (W : World) : Prop :=
  (∀ b, Z b → Wr.heap.size ≤ b ∧ b < W.heap.size) ∧ W.heap[B]? = some (.cells #[.int .i64 k] 3 (0, 0)) ∧ Wr.grownBy W (some B)
theorem strI_turn {Wr : World} {B : Nat} (hB : B < Wr.heap.size) {Z Z' : Nat → Prop} {k : Nat} {A W : World} {row : Option Nat} (h : strI Wr B Z k A) (hg : A.grownBy W row) (hr : ∀ r, row = some r → Z r) (hz : ∀ b, Z' b → Z b ∨ (A.heap.size ≤ b ∧ b < W.heap.size)) : strI Wr B Z' k W := by
  obtain ⟨h1, h2, h3⟩ := h
  refine ⟨fun b hb => ?_, blk_grown h2 hg (fun e => by have := (h1 B (hr B e.symm)).1; omega), ⟨hg.os.trans h3.os, hg.tape.trans h3.tape, hg.output.trans h3.output, Nat.le_trans h3.size hg.size, fun b hb hne => (hg.block b (Nat.lt_of_lt_of_le hb h3.size) (fun e => by have := (h1 b (hr b e.symm)).1; omega)).trans (h3.block b hb hne)⟩⟩
  rcases hz b hb with h | h
  · exact ⟨(h1 b h).1, Nat.lt_of_lt_of_le (h1 b h).2 hg.size⟩
  · exact ⟨Nat.le_trans h3.size h.1, h.2⟩
set_option maxHeartbeats 8000000 in
set_option maxRecDepth 100000 in
theorem streams24_calls (A : Option Addr) (c : Nat) (l : List (List Int)) (A1 : Option Addr) (c1 : Nat) (tx : List Int) (most : Int) (hm0 : 0 ≤ most) (hm1 : most ≤ 255) (w : World) (hV : Kd.V (Kd.slice 3 (Kd.int .i64)) 23 w w.heap.size (fun _ => True) (.slice A l.length c) l) (hT : Kd.V (Kd.int .i64) 3 w w.heap.size (fun _ => True) (.slice A1 tx.length c1) tx) :
    Calls Try.prog 13 #[.slice A l.length c, .slice A1 tx.length c1, .int .u8 most] w fun e w' => e = .returned (.bool true) ∧ Go.RowKit.Below w.heap.size w w' := by
  obtain ⟨-, hv1, hv2⟩ := Kd.V_reads' hV
  obtain ⟨-, ht1, ht2⟩ := Kd.V_reads' hT
  clear hV hT
  obtain ⟨b, hb, hbx⟩ := small_f l 12 (by omega) 6000000 (by omega)
  refine (callsIn_wide (n := 4)).1 ?_
  refine callsIn_of_wp_marks Try.func13 rfl trivial ?_ rfl
  simp only [Try.ntmps13, List.size_toArray, List.length_cons, List.length_nil, Nat.reduceAdd, Nat.reduceSub, Array.replicate_succ, Array.replicate_zero, List.push_toArray, List.append_toArray, List.nil_append, List.cons_append]
  refine wpIn_wide.2 ?_
  go_wp2_with fail
  obtain ⟨W0, hW0⟩ : ∃ W0, W0 = (w.alloc (.cells #[.int .u8 most] 5)).alloc (.cells #[.bool false] 4) := ⟨_, rfl⟩
  have hwb : Go.RowKit.Below w.heap.size w W0 := by rw [hW0]; exact (((Grows.refl w).alloc _).alloc _).below
  have hb6 : W0.heap[w.heap.size + 1]? = some (.cells #[.bool false] 4 (0, 0)) := by
    have := heap_alloc_new (w.alloc (.cells #[.int .u8 most] 5)) (.cells #[.bool false] 4)
    rw [World.size_alloc] at this
    rw [hW0]; exact this
  have hb5 : W0.heap[w.heap.size]? = some (.cells #[.int .u8 most] 5 (0, 0)) := by
    rw [hW0]; exact (Go.RowKit.Below.heap_alloc _ _ _ (by simp)).trans (heap_alloc_new _ _)
  rw [← hW0]
  have HW := Aside0.mk (And.intro hwb (And.intro (blk_lt hb6) (And.intro hb5 (And.intro hb6 hW0))))
  have HB := Aside0.mk (Go.RowKit.Below.refl W0.heap.size W0)
  have HV := Aside0.mk (And.intro hv1 (Kd.C_below hv2 hwb))
  have HT := Aside0.mk (And.intro ht1 (Kd.C_below ht2 hwb))
  have HS := Aside0.mk hb
  clear hwb hb5 hb6 hW0 hv1 hv2 ht1 ht2 hb
  cases b with
  | false =>
    clear hbx
    go_wp2_with (first | (go_at_call 49; refine (awake24_calls _).mono ?_; rintro e w2 ⟨rfl, hb2⟩; have n_ := Aside0.mk (below_step (by repeat (first | (with_reducible first | exact HB.out | apply below_alloc | apply pw_below_drewN | apply below_drew1) | exact HB.out)) hb2); clear HB; have HB := n_; clear n_; have z6 := blk_frozen ((HB.out.block _ HW.out.2.1).trans HW.out.2.2.2.1) 0; have y6 := (blk_cell ((HB.out.block _ HW.out.2.1).trans HW.out.2.2.2.1) 0).trans (show _ = some (Value.bool false) from rfl); clear hb2) | (go_at_call 34; refine (paronymref22_Small.calls 6000000 A c l 12 false _ (Kd.C_below HV.out.2 (by repeat (first | (with_reducible first | exact HB.out | apply below_alloc | apply pw_below_drewN | apply below_drew1) | exact HB.out))) HV.out.1 HS.out).mono ?_; rintro e w3 ⟨rfl, ⟨nd, rfl⟩⟩))
    have h_ := blk_set ((HB.out.block _ HW.out.2.1).trans HW.out.2.2.2.1) 0 (.bool true)
    refine ⟨_, results_cell_bool rfl _ _ ⟨w.heap.size + 1, 0, none⟩ true rfl ((blk_cell h_ 0).trans rfl), rfl, ?_⟩
    exact (HW.out.1.trans (HB.out.mono HW.out.1.size)).setCell (p := ⟨w.heap.size + 1, 0, none⟩) (by show w.heap.size ≤ w.heap.size + 1; omega) _

  | true =>
    have hIn : In 20 l := In.mono ⟨(hbx rfl).1, (hbx rfl).2⟩ (by omega)
    have HIn := Aside0.mk hIn
    have he := empty_f l (by have := hIn.len; omega) 6000000 (by omega)
    clear hbx hIn
    obtain ⟨b, hb⟩ : ∃ b, l.any (·.isEmpty) = b := ⟨_, rfl⟩
    rw [hb] at he
    have HE := Aside0.mk he
    have HEm := Aside0.mk hb
    clear he hb
    cases b with
    | true =>
      go_wp2_with (first | (go_at_call 49; refine (awake24_calls _).mono ?_; rintro e w2 ⟨rfl, hb2⟩; have n_ := Aside0.mk (below_step (by repeat (first | (with_reducible first | exact HB.out | apply below_alloc | apply pw_below_drewN | apply below_drew1) | exact HB.out)) hb2); clear HB; have HB := n_; clear n_; have z6 := blk_frozen ((HB.out.block _ HW.out.2.1).trans HW.out.2.2.2.1) 0; have y6 := (blk_cell ((HB.out.block _ HW.out.2.1).trans HW.out.2.2.2.1) 0).trans (show _ = some (Value.bool false) from rfl); clear hb2) | (go_at_call 34; refine (paronymref22_Small.calls 6000000 A c l 12 true _ (Kd.C_below HV.out.2 (by repeat (first | (with_reducible first | exact HB.out | apply below_alloc | apply pw_below_drewN | apply below_drew1) | exact HB.out))) HV.out.1 HS.out).mono ?_; rintro e w3 ⟨rfl, ⟨nd, rfl⟩⟩) | (go_at_call 35; refine (paronymref22_Empty.calls 6000000 A c l true _ (Kd.C_below HV.out.2 (by repeat (first | (with_reducible first | exact HB.out | apply below_alloc | apply pw_below_drewN | apply below_drew1) | exact HB.out))) HV.out.1 HE.out).mono ?_; rintro e w3 ⟨rfl, ⟨nd, rfl⟩⟩))
      have h_ := blk_set ((HB.out.block _ HW.out.2.1).trans HW.out.2.2.2.1) 0 (.bool true)
      refine ⟨_, results_cell_bool rfl _ _ ⟨w.heap.size + 1, 0, none⟩ true rfl ((blk_cell h_ 0).trans rfl), rfl, ?_⟩
      exact (HW.out.1.trans (HB.out.mono HW.out.1.size)).setCell (p := ⟨w.heap.size + 1, 0, none⟩) (by show w.heap.size ≤ w.heap.size + 1; omega) _

    | false =>
      by_cases hx : tx.length > 60
      · have hx1 : decide (60 < (tx.length : Int)) = true := decide_eq_true (by omega)
        go_wp2_with (first | (go_at_call 49; refine (awake24_calls _).mono ?_; rintro e w2 ⟨rfl, hb2⟩; have n_ := Aside0.mk (below_step (by repeat (first | (with_reducible first | exact HB.out | apply below_alloc | apply pw_below_drewN | apply below_drew1) | exact HB.out)) hb2); clear HB; have HB := n_; clear n_; have z6 := blk_frozen ((HB.out.block _ HW.out.2.1).trans HW.out.2.2.2.1) 0; have y6 := (blk_cell ((HB.out.block _ HW.out.2.1).trans HW.out.2.2.2.1) 0).trans (show _ = some (Value.bool false) from rfl); clear hb2) | (go_at_call 34; refine (paronymref22_Small.calls 6000000 A c l 12 true _ (Kd.C_below HV.out.2 (by repeat (first | (with_reducible first | exact HB.out | apply below_alloc | apply pw_below_drewN | apply below_drew1) | exact HB.out))) HV.out.1 HS.out).mono ?_; rintro e w3 ⟨rfl, ⟨nd, rfl⟩⟩) | (go_at_call 35; refine (paronymref22_Empty.calls 6000000 A c l false _ (Kd.C_below HV.out.2 (by repeat (first | (with_reducible first | exact HB.out | apply below_alloc | apply pw_below_drewN | apply below_drew1) | exact HB.out))) HV.out.1 HE.out).mono ?_; rintro e w3 ⟨rfl, ⟨nd, rfl⟩⟩))
        have h_ := blk_set ((HB.out.block _ HW.out.2.1).trans HW.out.2.2.2.1) 0 (.bool true)
        refine ⟨_, results_cell_bool rfl _ _ ⟨w.heap.size + 1, 0, none⟩ true rfl ((blk_cell h_ 0).trans rfl), rfl, ?_⟩
        exact (HW.out.1.trans (HB.out.mono HW.out.1.size)).setCell (p := ⟨w.heap.size + 1, 0, none⟩) (by show w.heap.size ≤ w.heap.size + 1; omega) _

      have hx1 : decide (60 < (tx.length : Int)) = false := decide_eq_false (by omega)
      go_wp2_with (first | (go_at_call 49; refine (awake24_calls _).mono ?_; rintro e w2 ⟨rfl, hb2⟩; have n_ := Aside0.mk (below_step (by repeat (first | (with_reducible first | exact HB.out | apply below_alloc | apply pw_below_drewN | apply below_drew1) | exact HB.out)) hb2); clear HB; have HB := n_; clear n_; have z6 := blk_frozen ((HB.out.block _ HW.out.2.1).trans HW.out.2.2.2.1) 0; have y6 := (blk_cell ((HB.out.block _ HW.out.2.1).trans HW.out.2.2.2.1) 0).trans (show _ = some (Value.bool false) from rfl); clear hb2) | (go_at_call 34; refine (paronymref22_Small.calls 6000000 A c l 12 true _ (Kd.C_below HV.out.2 (by repeat (first | (with_reducible first | exact HB.out | apply below_alloc | apply pw_below_drewN | apply below_drew1) | exact HB.out))) HV.out.1 HS.out).mono ?_; rintro e w3 ⟨rfl, ⟨nd, rfl⟩⟩) | (go_at_call 35; refine (paronymref22_Empty.calls 6000000 A c l false _ (Kd.C_below HV.out.2 (by repeat (first | (with_reducible first | exact HB.out | apply below_alloc | apply pw_below_drewN | apply below_drew1) | exact HB.out))) HV.out.1 HE.out).mono ?_; rintro e w3 ⟨rfl, ⟨nd, rfl⟩⟩) | (go_at_call 50; go_loud (refine (mnew_n A l.length c l _ rfl (Kd.C_below HV.out.2 (by repeat (first | (with_reducible first | exact HB.out | apply below_alloc | apply pw_below_drewN | apply below_drew1) | exact HB.out))) HIn.out HEm.out).mono ?_); rintro e w4 ⟨w0, g, rfl, ⟨s, pp, t, vl, hM⟩, hb, hz⟩; have HM := Aside0.mk hM; have HB2 := Aside0.mk (Go.RowKit.Below.refl w4.heap.size w4); have HZ0 := Aside0.mk (show W0.heap.size ≤ w0.heap.size from Nat.le_trans (below_size (by repeat (first | (with_reducible first | exact HB.out | apply below_alloc | apply pw_below_drewN | apply below_drew1) | exact HB.out))) hz); have n_ := Aside0.mk (below_step (by repeat (first | (with_reducible first | exact HB.out | apply below_alloc | apply pw_below_drewN | apply below_drew1) | exact HB.out)) hb); clear HB; have HB := n_; clear n_; clear hM hb hz) | (go_at_call 52; go_loud (refine (paronymref24_Stream.calls 6000000 A c l A1 c1 tx (hitsAll l [] tx) _ (Kd.C_below HV.out.2 (by repeat (first | (with_reducible first | exact HB.out | apply below_alloc | apply pw_below_drewN | apply below_drew1) | exact HB.out))) HV.out.1 (Kd.C_below HT.out.2 (by repeat (first | (with_reducible first | exact HB.out | apply below_alloc | apply pw_below_drewN | apply below_drew1) | exact HB.out))) HT.out.1 (by rw [hitsAll_D]; exact rstream_f HIn.out.bnd.1 (by omega) (by omega))).mono ?_); rintro e w6 ⟨v6, rfl, hR, hb⟩; obtain ⟨A6, c6, rfl⟩ := Kd.R_slice hR; have H6 := Aside0.mk hR; have n_ := Aside0.mk (below_step (by repeat (first | (with_reducible first | exact HB.out | apply below_alloc | apply pw_below_drewN | apply below_drew1) | exact HB.out)) hb); clear HB; have HB := n_; clear n_; have n_ := Aside0.mk (below_step (by repeat (first | (with_reducible first | exact HB2.out | apply below_alloc | apply pw_below_drewN | apply below_drew1) | exact HB2.out)) hb); clear HB2; have HB2 := n_; clear n_; clear hb hR) | (go_at_call 53; refine Aside0.out ?_))
      refine Aside0.mk ?_
      obtain ⟨W7, hW7⟩ : ∃ W7, W7 = (w6.alloc (.cells #[.slice A6 (hitsAll l [] tx).length c6] 68)).alloc (.cells #[.int .i64 0] 3) := ⟨_, rfl⟩
      have g7 : Go.RowKit.Below w6.heap.size w6 W7 := by rw [hW7]; exact (((Grows.refl w6).alloc _).alloc _).below
      have q9 : W7.heap[w6.heap.size]? = some (.cells #[.slice A6 (hitsAll l [] tx).length c6] 68 (0, 0)) := by rw [hW7]; exact (Go.RowKit.Below.heap_alloc _ _ _ (by simp)).trans (heap_alloc_new _ _)
      have q10 : W7.heap[w6.heap.size + 1]? = some (.cells #[.int .i64 0] 3 (0, 0)) := by
        have := heap_alloc_new (w6.alloc (.cells #[.slice A6 (hitsAll l [] tx).length c6] 68)) (.cells #[.int .i64 0] 3)
        rw [World.size_alloc] at this
        rw [hW7]; exact this
      rw [← hW7]
      have n_ := Aside0.mk (HB.out.trans (g7.mono HB.out.size))
      clear HB
      have HB := n_
      clear n_
      have HM7 := Aside0.mk (HM.out.below (HB2.out.trans (g7.mono HB2.out.size)))
      have H7 := Aside0.mk (And.intro q9 (And.intro q10 (R_keep H6.out g7)))
      have HB24 := Aside0.mk HB2.out.size
      clear g7 q9 q10 hW7 HB2
      refine (stream_calls2 HM7.out HIn.out HEm.out A1 c1 tx (Kd.C_below HT.out.2 (by repeat (first | (with_reducible first | exact HB.out | apply below_alloc | apply pw_below_drewN | apply below_drew1) | exact HB.out))) (by omega)).mono ?_
      rintro e Wr ⟨B1, B2, Kk, rfl, hbr, hKk, hseq⟩
      obtain ⟨B9, hB9⟩ : ∃ B9, B9 = w6.heap.size := ⟨_, rfl⟩
      obtain ⟨B10, hB10⟩ : ∃ B10, B10 = w6.heap.size + 1 := ⟨_, rfl⟩
      obtain ⟨xs, hxs⟩ : ∃ xs, xs = hitsAll l [] tx := ⟨_, rfl⟩
      rw [← hB10, ← hB9, ← hxs] at H7
      rw [← hB10, ← hB9, ← hxs]
      have hxl : xs.length ≤ 1200 := by
        have h1 := hitsAll_len l tx []
        have h2 : l.length * tx.length ≤ 20 * 60 := Nat.mul_le_mul HIn.out.len (by omega)
        rw [hxs]; omega
      have l5 := blk_lt HW.out.2.2.1
      have l6 := HW.out.2.1
      have s7 := HB.out.size
      have sr := hbr.size
      have l9 := blk_lt H7.out.1
      have l10 := blk_lt H7.out.2.1
      have r5 : Wr.heap[w.heap.size]? = some (.cells #[.int .u8 most] 5 (0, 0)) := (hbr.block _ (by omega)).trans ((HB.out.block _ l5).trans HW.out.2.2.1)
      have r6 : Wr.heap[w.heap.size + 1]? = some (.cells #[.bool false] 4 (0, 0)) := (hbr.block _ (by omega)).trans ((HB.out.block _ l6).trans HW.out.2.2.2.1)
      have r9 : Wr.heap[B9]? = some (.cells #[.slice A6 xs.length c6] 68 (0, 0)) := (hbr.block _ l9).trans H7.out.1
      have r10 : Wr.heap[B10]? = some (.cells #[.int .i64 0] 3 (0, 0)) := (hbr.block _ l10).trans H7.out.2.1
      have rR := R_keep H7.out.2.2 hbr
      have rM := HM7.out.below hbr
      have HR := Aside0.mk (And.intro r5 (And.intro r6 (And.intro r9 (And.intro r10 (And.intro rR rM)))))
      have n_ := Aside0.mk (HB.out.trans (hbr.mono HB.out.size))
      clear HB
      have HB := n_
      clear n_
      have hgw : w0.heap.size ≤ Wr.heap.size := rM.bw.size
      have hl10 : B10 < Wr.heap.size := by omega
      have h69 : w.heap.size + 1 ≠ B10 := by
        intro e
        rw [e] at r6
        rw [r10] at r6
        simp at r6
      have h59 : w.heap.size ≠ B10 := by
        intro e
        rw [e] at r5
        rw [r10] at r5
        simp at r5
      have h99 : B9 ≠ B10 := by omega
      have HN10 := Aside0.mk (And.intro (show w0.heap.size ≤ B10 by have h1 := HM.out.bw.size; have h2 := HB24.out; omega) (And.intro (show B10 < W7.heap.size from l10) (And.intro (fun b (hb : vl.ownBlock = some b) => (show b < B10 by have h1 := own_lt HM.out.ln b hb; have h2 := HB24.out; omega)) (show B10 ≠ g by have h1 := blk_lt HM.out.blk; have h2 := HB24.out; omega))))
      have HN := Aside0.mk (And.intro h69 (And.intro h59 (And.intro h99 hl10)))
      rw [← hxs] at hseq
      have HX := Aside0.mk hxs
      have HSEQ := Aside0.mk (And.intro hseq (And.intro hKk hgw))
      have HGW := Aside0.mk (show w.heap.size < W0.heap.size by omega)
      rw [hxs] at hxl
      clear r5 r6 r9 r10 rR rM hseq hKk hbr s7 sr hgw h69 h59 h99 hl10 l9 l10 l5 l6 hB9 hB10 hxs
      go_wp2
      refine (wpIn_wide (n := 4)).1 ?_
      refine range_own (n := 4) (by omega) (gf := 94) (lb := #[.pointer (some ⟨B1, 0, none⟩), .pointer (some ⟨B2, 0, none⟩)]) rfl (enters_of Try.func94 (by kernel_rfl) rfl) HSEQ.out.1 (Go.RowKit.Below.refl _ _) HSEQ.out.2.2 (fun _ h => h.elim) (fun b hb => (HSEQ.out.2.1 b hb).1) (fun _ => rfl)
        (fun Z pre W => strI Wr B10 Z pre.length W ∧ (pre.length : Int) ≤ most)
        (fun Z s W => ∃ q, s.2.2 = { tmps := #[.slice A l.length c, .slice A1 tx.length c1, .int .u8 most, undef, undef, .pointer (some ⟨w.heap.size, 0, none⟩), .pointer (some ⟨w.heap.size + 1, 0, none⟩), .pointer (some ⟨g, 0, none⟩), .int .i64 0, .pointer (some ⟨B9, 0, none⟩), .pointer (some ⟨B10, 0, none⟩), .pointer (some ⟨q, 0, none⟩), .bool true, .bool false, .bool false, .slice A l.length c, .bool true, .bool false, .bool false, .bool false, .slice A l.length c, .bool false, .bool false, .bool false, .slice A1 tx.length c1, .int .i64 (tx.length : Int), .bool false, .bool false, undef, .tuple #[.pointer (some ⟨g, 0, none⟩), .int .i64 0], .slice A l.length c, .tuple #[.pointer (some ⟨g, 0, none⟩), .int .i64 0], .pointer (some ⟨g, 0, none⟩), .int .i64 0, .pointer (some ⟨g, 0, none⟩), .bool false, .slice A l.length c, .slice A1 tx.length c1, .slice A6 xs.length c6, .pointer (some ⟨g, 0, none⟩), .slice A1 tx.length c1, .func (.func 94) #[] #[.pointer (some ⟨B1, 0, none⟩), .pointer (some ⟨B2, 0, none⟩)], .agg #[.int .i64 s.2.1.f0, .int .i64 s.2.1.f1], undef, undef, undef, undef, undef, undef, undef, undef, undef, undef, undef, undef, undef, undef, undef, undef, undef, undef, undef, undef, undef, undef, undef, undef, undef, undef, undef, undef, undef, undef], defers := [] } ∧ W.heap[q]? = some (.cells #[.int .i64 s.2.1.f0, .int .i64 s.2.1.f1] 71 (0, 0)) ∧ ¬ Z q ∧ Wr.heap.size ≤ q ∧ strI Wr B10 Z s.1.length W ∧ (s.1.length : Int) ≤ most)
        (fun c s W => c = Code.exit 0 ∧ (s.length : Int) = most + 1 ∧ W.heap[B10]? = some (.cells #[.int .i64 most] 3 (0, 0)) ∧ Wr.grownBy W (some B10))
        (fun Z Z' s A B row h hg hr hz => ⟨strI_turn HN.out.2.2.2 h.1 hg hr hz, h.2⟩) ?ax ?ix ?h0 ?assign ?body ?done ?stop
      case ax =>
        rintro Z Z' ⟨pre, x, a'⟩ A B row ⟨q, e, h1, h2, h3, h4, h5⟩ hg hr hz
        refine ⟨q, e, blk_grown h1 hg (fun e => h2 (hr q e.symm)), fun h => ?_, h3, strI_turn HN.out.2.2.2 h4 hg hr hz, h5⟩
        rcases hz q h with h | h
        · exact h2 h
        · have := blk_lt h1; omega
      case ix =>
        rintro cc ss W lp r o hlp hl ⟨h1, h2, h3, h4⟩
        refine ⟨h1, h2, (World.putObj_heap_other (by have := HN.out.2.2.2; omega)).trans h3, ⟨h4.os, h4.tape, h4.output, Nat.le_trans h4.size (by simp [World.putObj]), fun b hb hne => (World.putObj_heap_other (by omega)).trans (h4.block b hb hne)⟩⟩
      case h0 => exact ⟨⟨fun b hb => hb.elim, HR.out.2.2.2.1, ⟨rfl, rfl, rfl, Nat.le_refl _, fun _ _ _ => rfl⟩⟩, hm0⟩
      case assign =>
        rintro lp Z pre x r W Kc ⟨hI, hm⟩ hx2 hK2
        have HI := Aside0.mk hI
        clear hI hx2
        unfold encH
        gi_wp2
        have gr := grown_alloc W (.cells #[.int .i64 x.f0, .int .i64 x.f1] 71)
        refine hK2 _ _ (fun b hb => ?_) (((Grows.refl W).alloc _).below.mono (Nat.le_trans HSEQ.out.2.2 HI.out.2.2.size)) ⟨W.heap.size, rfl, heap_alloc_new _ _, fun h => by have := (HI.out.1 _ h).2; omega, HI.out.2.2.size, strI_turn HN.out.2.2.2 HI.out gr (fun r e => by cases e) (fun b hb => .inl hb), hm⟩
        refine Go.RowKit.Below.heap_alloc _ _ _ ?_
        rcases hb with hb | hb
        · exact (HI.out.1 b hb).2
        · exact Nat.lt_of_lt_of_le (HSEQ.out.2.1 b hb).1 HI.out.2.2.size
      case body =>
        rintro lp Z pre x r a' W ⟨q, ha, h1, h2, h3, h4, h5⟩ hx2
        dsimp only at ha h1 h4 h5
        subst ha
        have y10 : W.cell? ⟨B10, 0, none⟩ = some (.int .i64 (pre.length : Int)) := (blk_cell h4.2.1 0).trans rfl
        have z10 := blk_frozen h4.2.1 0
        have y5 : W.cell? ⟨w.heap.size, 0, none⟩ = some (.int .u8 most) := (blk_cell ((h4.2.2.block _ (blk_lt HR.out.1) (fun e => HN.out.2.1 (by injection e))).trans HR.out.1) 0).trans rfl
        have y9 : W.cell? ⟨B9, 0, none⟩ = some (.slice A6 xs.length c6) := (blk_cell ((h4.2.2.block _ (blk_lt HR.out.2.2.1) (fun e => HN.out.2.2.1 (by injection e))).trans HR.out.2.2.1) 0).trans rfl
        have x0 : W.cell? ⟨q, 0, none⟩ = some (.int .i64 x.f0) := (blk_cell h1 0).trans rfl
        have x1 : W.cell? ⟨q, 1, none⟩ = some (.int .i64 x.f1) := (blk_cell h1 1).trans rfl
        have hlt : pre.length < xs.length := by rw [hx2]; simp
        have hxe : xs[pre.length] = x := by
          have h_ : xs[pre.length]? = some x := by rw [hx2]; simp
          rw [List.getElem?_eq_getElem hlt] at h_
          exact Option.some.inj h_
        have rW := R_turn HR.out.2.2.2.2.1 (w' := W) (fun b hb => h4.2.2.block b (R_own_lt HR.out.2.2.2.2.1 b hb).1 (fun e => by
          obtain ⟨_, inner, hown, _⟩ := HR.out.2.2.2.2.1
          rcases own_ne_blk hown HR.out.2.2.2.1 (by decide) with h6 | h6
          · rw [h6] at hb; cases hb
          · exact h6 (by rw [hb]; exact e)))
        obtain ⟨A9, c9, e9, hl9, hC9⟩ := Kd.R_reads rW
        injection e9 with p1 p2 p3
        subst p1 p3
        clear p2
        obtain ⟨ad, rfl, k0, k1⟩ := hit_at hC9 pre.length hlt
        rw [hxe] at k0 k1
        have HW2 := Aside0.mk (And.intro h1 (And.intro h2 (And.intro h3 (And.intro h4 (And.intro h5 hx2)))))
        have hlx : (pre.length : Int) < (xs.length : Int) := by omega
        have hpl : pre.length ≤ 1200 := by rw [← HX.out] at hxl; omega
        clear h1 h2 h3 h4 hC9 rW hl9 hx2 hxe
        by_cases hmm : most ≤ (pre.length : Int)
        · have d1 : decide (most ≤ (pre.length : Int)) = true := decide_eq_true hmm
          gi_wp2
          have hme : (pre.length : Int) = most := by omega
          refine ⟨KeepZ.refl _ _, rfl, by simp; omega, ?_, HW2.out.2.2.2.1.2.2⟩
          rw [← hme]
          exact HW2.out.2.2.2.1.2.1
        · have d1 : decide (most ≤ (pre.length : Int)) = false := decide_eq_false hmm
          gi_wp2
          have e1 : (x.f0 == x.f0) = true := by simp
          have e2 : (x.f1 == x.f1) = true := by simp
          have d3 : decide ((xs.length : Int) ≤ (pre.length : Int)) = false := decide_eq_false (by omega)
          have d3b : decide (xs.length ≤ pre.length) = false := decide_eq_false (by omega)
          refine wpIn_region_held (S := (fun w' => w'.cell? ⟨B10, 0, none⟩ = some (.int .i64 (pre.length : Int)) ∧ w'.cell? ⟨B9, 0, none⟩ = some (.slice (some ad) xs.length c6) ∧ w'.cell? ⟨q, 0, none⟩ = some (.int .i64 x.f0) ∧ w'.cell? ⟨q, 1, none⟩ = some (.int .i64 x.f1) ∧ w'.cell? (ad.add (pre.length * 2)) = some (.int .i64 x.f0) ∧ w'.cell? ⟨(ad.add (pre.length * 2)).block, (ad.add (pre.length * 2)).off + 1, none⟩ = some (.int .i64 x.f1))) (by kernel_rfl) (by kernel_rfl) (by rintro ⟨a_, w_, h_⟩; exact h_) ?s0p (fun hHeld => ?b0p)
          case s0p => (first | exact ⟨y10, y9, x0, x1, k0, k1⟩ | go_keep)
          refine wpAnyH_take (i := 0) (oi := { dst := some 47, op := Go.Op.load 3 (Go.Operand.tmp 10), type := 3, pos := "law.go:86", after := #[], guard := none }) (v := ?vp_1) rfl (by kernel_rfl) (by kernel_rfl) (by kernel_rfl) (fun _ _ _ h => h) (Or.inl ⟨by rfl, ?hyp_1⟩) (by assumption) ?rep_1
          case hyp_1 => (intro w hSw; (try dsimp only at hSw); go_simp; try with_reducible rfl)
          try simp only [Act.put, List.setIfInBounds_toArray, List.set_cons_zero, List.set_cons_succ]
          refine wpAnyH_take (i := 1) (oi := { dst := some 48, op := Go.Op.load 68 (Go.Operand.tmp 9), type := 68, pos := "law.go:86", after := #[], guard := none }) (v := ?vp_2) rfl (by kernel_rfl) (by kernel_rfl) (by kernel_rfl) (fun _ _ _ h => h) (Or.inl ⟨by rfl, ?hyp_2⟩) (by assumption) ?rep_2
          case hyp_2 => (intro w hSw; (try dsimp only at hSw); go_simp; try with_reducible rfl)
          try simp only [Act.put, List.setIfInBounds_toArray, List.set_cons_zero, List.set_cons_succ]
          refine wpAnyH_take (i := 2) (oi := { dst := some 49, op := Go.Op.call { callee := Go.Callee.builtin Go.Builtin.len, args := #[Go.Operand.tmp 48], argTypes := #[68] }, type := 3, pos := "law.go:86", after := #[{ on := 1, ground := Go.Ground.data }], guard := none }) (v := ?vp_3) rfl (by kernel_rfl) (by kernel_rfl) (by kernel_rfl) (fun _ _ _ h => h) (Or.inl ⟨by rfl, ?hyp_3⟩) (by assumption) ?rep_3
          case hyp_3 => (intro w hSw; (try dsimp only at hSw); go_simp; try with_reducible rfl)
          try simp only [Act.put, List.setIfInBounds_toArray, List.set_cons_zero, List.set_cons_succ]
          refine wpAnyH_take (i := 3) (oi := { dst := some 50, op := Go.Op.binOp Go.BinOp.geq 3 (Go.Operand.tmp 47) (Go.Operand.tmp 49) 3, type := 4, pos := "law.go:86", after := #[{ on := 0, ground := Go.Ground.data }, { on := 2, ground := Go.Ground.data }], guard := none }) (v := ?vp_4) rfl (by kernel_rfl) (by kernel_rfl) (by kernel_rfl) (fun _ _ _ h => h) (Or.inl ⟨by rfl, ?hyp_4⟩) (by assumption) ?rep_4
          case hyp_4 => (intro w hSw; (try dsimp only at hSw); go_simp; try with_reducible rfl)
          try simp only [Act.put, List.setIfInBounds_toArray, List.set_cons_zero, List.set_cons_succ]
          refine wpAnyH_take (i := 4) (oi := { dst := some 51, op := Go.Op.move (Go.Operand.tmp 50), type := 4, pos := "law.go:86", after := #[{ on := 3, ground := Go.Ground.data }], guard := none }) (v := ?vp_5) rfl (by kernel_rfl) (by kernel_rfl) (by kernel_rfl) (fun _ _ _ h => h) (Or.inl ⟨by rfl, ?hyp_5⟩) (by assumption) ?rep_5
          case hyp_5 => (intro w hSw; (try dsimp only at hSw); go_simp; try with_reducible rfl)
          try simp only [Act.put, List.setIfInBounds_toArray, List.set_cons_zero, List.set_cons_succ]
          refine wpAnyH_take (i := 5) (oi := { dst := some 52, op := Go.Op.load 71 (Go.Operand.tmp 11), type := 71, pos := "law.go:86", after := #[{ on := 4, ground := Go.Ground.guard }], guard := some (4, false) }) (v := ?vp_6) rfl (by kernel_rfl) (by kernel_rfl) (by kernel_rfl) (fun _ _ _ h => h) (Or.inl ⟨by rfl, ?hyp_6⟩) (by assumption) ?rep_6
          case hyp_6 => (intro w hSw; (try dsimp only at hSw); go_simp; try with_reducible rfl)
          try simp only [Act.put, List.setIfInBounds_toArray, List.set_cons_zero, List.set_cons_succ]
          refine wpAnyH_take (i := 6) (oi := { dst := some 53, op := Go.Op.load 68 (Go.Operand.tmp 9), type := 68, pos := "law.go:86", after := #[{ on := 4, ground := Go.Ground.guard }], guard := some (4, false) }) (v := ?vp_7) rfl (by kernel_rfl) (by kernel_rfl) (by kernel_rfl) (fun _ _ _ h => h) (Or.inl ⟨by rfl, ?hyp_7⟩) (by assumption) ?rep_7
          case hyp_7 => (intro w hSw; (try dsimp only at hSw); go_simp; try with_reducible rfl)
          try simp only [Act.put, List.setIfInBounds_toArray, List.set_cons_zero, List.set_cons_succ]
          refine wpAnyH_take (i := 7) (oi := { dst := some 54, op := Go.Op.load 3 (Go.Operand.tmp 10), type := 3, pos := "law.go:86", after := #[{ on := 4, ground := Go.Ground.guard }], guard := some (4, false) }) (v := ?vp_8) rfl (by kernel_rfl) (by kernel_rfl) (by kernel_rfl) (fun _ _ _ h => h) (Or.inl ⟨by rfl, ?hyp_8⟩) (by assumption) ?rep_8
          case hyp_8 => (intro w hSw; (try dsimp only at hSw); go_simp; try with_reducible rfl)
          try simp only [Act.put, List.setIfInBounds_toArray, List.set_cons_zero, List.set_cons_succ]
          refine wpAnyH_take (i := 8) (oi := { dst := some 55, op := Go.Op.indexAddr 68 (Go.Operand.tmp 53) (Go.Operand.tmp 54), type := 0, pos := "law.go:86", after := #[{ on := 6, ground := Go.Ground.data }, { on := 7, ground := Go.Ground.data }, { on := 4, ground := Go.Ground.guard }], guard := some (4, false) }) (v := ?vp_9) rfl (by kernel_rfl) (by kernel_rfl) (by kernel_rfl) (fun _ _ _ h => h) (Or.inl ⟨by rfl, ?hyp_9⟩) (by assumption) ?rep_9
          case hyp_9 => (intro w hSw; (try dsimp only at hSw); go_simp; try with_reducible rfl)
          try simp only [Act.put, List.setIfInBounds_toArray, List.set_cons_zero, List.set_cons_succ]
          refine wpAnyH_take (i := 9) (oi := { dst := some 56, op := Go.Op.load 71 (Go.Operand.tmp 55), type := 71, pos := "law.go:86", after := #[{ on := 8, ground := Go.Ground.data }, { on := 4, ground := Go.Ground.guard }], guard := some (4, false) }) (v := ?vp_10) rfl (by kernel_rfl) (by kernel_rfl) (by kernel_rfl) (fun _ _ _ h => h) (Or.inl ⟨by rfl, ?hyp_10⟩) (by assumption) ?rep_10
          case hyp_10 => (intro w hSw; (try dsimp only at hSw); go_simp; try with_reducible rfl)
          try simp only [Act.put, List.setIfInBounds_toArray, List.set_cons_zero, List.set_cons_succ]
          refine wpAnyH_take (i := 10) (oi := { dst := some 57, op := Go.Op.binOp Go.BinOp.neq 71 (Go.Operand.tmp 52) (Go.Operand.tmp 56) 71, type := 4, pos := "law.go:86", after := #[{ on := 5, ground := Go.Ground.data }, { on := 9, ground := Go.Ground.data }, { on := 4, ground := Go.Ground.guard }], guard := some (4, false) }) (v := ?vp_11) rfl (by kernel_rfl) (by kernel_rfl) (by kernel_rfl) (fun _ _ _ h => h) (Or.inl ⟨by rfl, ?hyp_11⟩) (by assumption) ?rep_11
          case hyp_11 => (intro w hSw; (try dsimp only at hSw); go_simp; try with_reducible rfl)
          try simp only [Act.put, List.setIfInBounds_toArray, List.set_cons_zero, List.set_cons_succ]
          refine wpAnyH_take (i := 11) (oi := { dst := some 58, op := Go.Op.pick (Go.Operand.tmp 51) (Go.Operand.const (Go.Value.bool true)) (Go.Operand.tmp 57), type := 4, pos := "law.go:86", after := #[{ on := 4, ground := Go.Ground.data }, { on := 10, ground := Go.Ground.data }], guard := none }) (v := ?vp_12) rfl (by kernel_rfl) (by kernel_rfl) (by kernel_rfl) (fun _ _ _ h => h) (Or.inl ⟨by rfl, ?hyp_12⟩) (by assumption) ?rep_12
          case hyp_12 => (intro w hSw; (try dsimp only at hSw); go_simp; try with_reducible rfl)
          try simp only [Act.put, List.setIfInBounds_toArray, List.set_cons_zero, List.set_cons_succ]
          refine wpAnyH_done (by kernel_rfl) ?dnp_13 _
          gi_wp2
          obtain ⟨W3, hW3⟩ : ∃ W3, W3 = (W.setCell ⟨B10, 0, none⟩ (.int .i64 ((pre.length : Int) + 1))).drew := ⟨_, rfl⟩
          rw [← hW3]
          have hI3 := HW2.out.2.2.2.1
          have g23 : W.grownBy W3 (some B10) := by rw [hW3]; exact (grownBy_set W ⟨B10, 0, none⟩ _).trans (grows_grownTo ((Grows.refl _).drewN 1) (some B10))
          have hB10 := HN.out.2.2.2
          have keep : ∀ b, b < W.heap.size → b ≠ B10 → W3.heap[b]? = W.heap[b]? := fun b h1 h2 => g23.block b h1 (fun e => h2 (by injection e))
          refine ⟨fun b hb => ?_, ⟨g23.os, g23.tape, g23.output, g23.size, fun b hb => keep b (Nat.lt_of_lt_of_le hb (Nat.le_trans HSEQ.out.2.2 hI3.2.2.size)) (fun e => by have := HN10.out.1; omega)⟩, ⟨fun b hb => ⟨(hI3.1 b hb).1, Nat.lt_of_lt_of_le (hI3.1 b hb).2 g23.size⟩, ?_, hI3.2.2.trans g23⟩, ?_⟩
          · rcases hb with hb | hb
            · exact keep b (hI3.1 b hb).2 (fun e => by have := (hI3.1 b hb).1; omega)
            · exact keep b (Nat.lt_of_lt_of_le (HSEQ.out.2.1 b hb).1 hI3.2.2.size) (fun e => by
                rcases (HSEQ.out.2.1 b hb).2 with h | h
                · have := HN10.out.2.1; omega
                · have := HN10.out.2.2.1 b h; omega)
          · have h_ := blk_set hI3.2.1 0 (.int .i64 ((pre.length : Int) + 1))
            rw [hW3]
            have e4 : (((pre ++ [x]).length : Nat) : Int) = (pre.length : Int) + 1 := by simp
            rw [e4]
            exact h_
          · have e4 : (((pre ++ [x]).length : Nat) : Int) = (pre.length : Int) + 1 := by simp
            rw [e4]; omega
      case done =>
        rintro Z W ⟨hI, hm⟩ hD
        have hmin : (if (xs.length : Int) < most then (xs.length : Int) else most) = (xs.length : Int) := by split <;> omega
        have y5 : W.cell? ⟨w.heap.size, 0, none⟩ = some (.int .u8 most) := (blk_cell ((hI.2.2.block _ (blk_lt HR.out.1) (fun e => HN.out.2.1 (by injection e))).trans HR.out.1) 0).trans rfl
        have y9 : W.cell? ⟨B9, 0, none⟩ = some (.slice A6 xs.length c6) := (blk_cell ((hI.2.2.block _ (blk_lt HR.out.2.2.1) (fun e => HN.out.2.2.1 (by injection e))).trans HR.out.2.2.1) 0).trans rfl
        have hb6 := (hI.2.2.block _ (blk_lt HR.out.2.1) (fun e => HN.out.1 (by injection e))).trans HR.out.2.1
        have y6 : W.cell? ⟨w.heap.size + 1, 0, none⟩ = some (.bool false) := (blk_cell hb6 0).trans rfl
        have z6 := blk_frozen hb6 0
        have rM2 : Mt w0 W g pp t l s vl (lens l) 0 0 0 := Mt.other HR.out.2.2.2.2.2 hI.2.2 (fun r e => by cases e; exact ⟨by have := HN10.out.1; omega, HN10.out.2.2.2, fun e => by have := HN10.out.2.2.1 _ e; omega⟩)
        have HM9 := Aside0.mk rM2
        have HD := Aside0.mk (And.intro hD hb6)
        clear hD rM2 hb6
        have y10 : W.cell? ⟨B10, 0, none⟩ = some (.int .i64 (xs.length : Int)) := (blk_cell hI.2.1 0).trans rfl
        have HI := Aside0.mk hI.2.2
        clear hI
        gi_wp2
        go_wp2_with (go_at_call 54; go_loud (refine (read_calls HM9.out).mono ?_); rintro e w8 ⟨rfl, rfl⟩)
        refine ⟨by simp, .inl ⟨_, _, rfl, run_takeDeferred ((Go.RowKit.Below.heap_setCell _ ⟨w.heap.size + 1, 0, none⟩ (.bool true) _ (show Wr.heap.size ≠ w.heap.size + 1 by have := blk_lt HR.out.2.1; omega)).trans HD.out.1), ?_⟩⟩
        refine ⟨_, results_cell_bool rfl _ _ ⟨w.heap.size + 1, 0, none⟩ true rfl ?_, rfl, ?_⟩
        · exact (blk_cell ((World.putObj_heap_other (show w.heap.size + 1 ≠ Wr.heap.size by have := blk_lt HR.out.2.1; omega)).trans (blk_set HD.out.2 0 (.bool true))) 0).trans rfl
        · have b1 : Go.RowKit.Below w.heap.size w Wr := HW.out.1.trans (HB.out.mono HW.out.1.size)
          have b2 := Go.RowKit.Below.grown b1 HI.out b1.size (fun k hk => by cases hk; have h1 := HN10.out.1; have h2 := HZ0.out; have h3 := HGW.out; omega)
          exact (b2.setCell (p := ⟨w.heap.size + 1, 0, none⟩) (by show w.heap.size ≤ w.heap.size + 1; omega) _).trans (below_put _ _ _ _ b1.size)
      case stop =>
        rintro cc pre x r W hx2 ⟨rfl, h1, h2, hI⟩ hD
        have hlt : pre.length < xs.length := by rw [hx2]; simp
        have hpm : (pre.length : Int) = most := by simp at h1; omega
        have hml : most < (xs.length : Int) := by omega
        clear h1 hx2 hpm hlt
        have hmin : (if (xs.length : Int) < most then (xs.length : Int) else most) = most := by rw [if_neg (by omega)]
        have y5 : W.cell? ⟨w.heap.size, 0, none⟩ = some (.int .u8 most) := (blk_cell ((hI.block _ (blk_lt HR.out.1) (fun e => HN.out.2.1 (by injection e))).trans HR.out.1) 0).trans rfl
        have y9 : W.cell? ⟨B9, 0, none⟩ = some (.slice A6 xs.length c6) := (blk_cell ((hI.block _ (blk_lt HR.out.2.2.1) (fun e => HN.out.2.2.1 (by injection e))).trans HR.out.2.2.1) 0).trans rfl
        have hb6 := (hI.block _ (blk_lt HR.out.2.1) (fun e => HN.out.1 (by injection e))).trans HR.out.2.1
        have y6 : W.cell? ⟨w.heap.size + 1, 0, none⟩ = some (.bool false) := (blk_cell hb6 0).trans rfl
        have z6 := blk_frozen hb6 0
        have rM2 : Mt w0 W g pp t l s vl (lens l) 0 0 0 := Mt.other HR.out.2.2.2.2.2 hI (fun r e => by cases e; exact ⟨by have := HN10.out.1; omega, HN10.out.2.2.2, fun e => by have := HN10.out.2.2.1 _ e; omega⟩)
        have HM9 := Aside0.mk rM2
        have HD := Aside0.mk (And.intro hD hb6)
        clear hD rM2 hb6
        have y10 : W.cell? ⟨B10, 0, none⟩ = some (.int .i64 most) := (blk_cell h2 0).trans rfl
        have HI := Aside0.mk hI
        clear hI h2
        gi_wp2
        go_wp2_with (go_at_call 54; go_loud (refine (read_calls HM9.out).mono ?_); rintro e w8 ⟨rfl, rfl⟩)
        refine ⟨by simp, .inl ⟨_, _, rfl, run_takeDeferred ((Go.RowKit.Below.heap_setCell _ ⟨w.heap.size + 1, 0, none⟩ (.bool true) _ (show Wr.heap.size ≠ w.heap.size + 1 by have := blk_lt HR.out.2.1; omega)).trans HD.out.1), ?_⟩⟩
        refine ⟨_, results_cell_bool rfl _ _ ⟨w.heap.size + 1, 0, none⟩ true rfl ?_, rfl, ?_⟩
        · exact (blk_cell ((World.putObj_heap_other (show w.heap.size + 1 ≠ Wr.heap.size by have := blk_lt HR.out.2.1; omega)).trans (blk_set HD.out.2 0 (.bool true))) 0).trans rfl
        · have b1 : Go.RowKit.Below w.heap.size w Wr := HW.out.1.trans (HB.out.mono HW.out.1.size)
          have b2 := Go.RowKit.Below.grown b1 HI.out b1.size (fun k hk => by cases hk; have h1 := HN10.out.1; have h2 := HZ0.out; have h3 := HGW.out; omega)
          exact (b2.setCell (p := ⟨w.heap.size + 1, 0, none⟩) (by show w.heap.size ≤ w.heap.size + 1; omega) _).trans (below_put _ _ _ _ b1.size)
end Go.Proofs.Ytgfmplhpoblleaa.FailW
