/- page: the law's walk. -/
import Derived.Test.YtgfmplhpoblleaaDoorFieldP
import Derived.Test.YtgfmplhpoblleaaDoorPRefx2
namespace Go.Proofs.YtgfmplhpoblleaaDoor.FieldW
open Go.RowKit Go.Shelf Go.Lib Go.Proofs Go.Proofs.YtgfmplhpoblleaaDoorW.PrintWords Go.Proofs.YtgfmplhpoblleaaDoorW.PrintLast Go.Proofs.YtgfmplhpoblleaaDoorW.PrintMore Go.Proofs.YtgfmplhpoblleaaDoor.PRef
set_option linter.unusedVariables false
set_option linter.unusedSimpArgs false

/-- What the document's functions and the cursor answer. -/
structure Facts (l : List Int) (s : ByteArray) : Prop where
  parse : ∃ k, paronymref21_Parse.f k s = some (parseS s.data.toList)
  cursor : ∃ k, paronymref21_Cursor.f k l = some ⟨(cursorS l).toArray⟩
  same : ∀ q : List Int, q.length ≤ 1000000 → ∃ k, paronymref01_Same.f k q q = some true
  back : parseS (cursorS l) = if cursorS l = [45] then ([], 0) else if 63 < l.length then ([], 42) else (l, 0)
set_option maxRecDepth 100000 in
set_option maxHeartbeats 4000000 in
theorem law_calls (A0 : Option Addr) (c0 : Nat) (l : List Int) (s : ByteArray) (w : World) (hr : Kd.C (Kd.int .i64) w A0 l.length l) (hc : l.length ≤ c0) (hz : w.cell? ⟨6, 15, none⟩ = some (.int .u8 4)) (F : l.length ≤ 100 → s.size ≤ 600 → Facts l s) :
    Calls Tryd.prog 3 #[.slice A0 l.length c0, .string s] w fun e w' => e = .returned (.bool true) ∧ Go.RowKit.Below w.heap.size w w' := by
  have hbig : l.length ≤ 9223372036854775807 := Kd.C_max hr
  have HA := Aside0.mk (awake_calls w hz)
  have hz6 := lt_of_cell hz
  have AW : Aside0 (∀ W : World, Go.RowKit.Below w.heap.size w W → Calls Tryd.prog 4 #[] W fun e w' => e = .returned (.bool true) ∧ Go.RowKit.Below W.heap.size W w') := ⟨fun W hb => awake_calls W ((hb.cell (p := ⟨6, 15, none⟩) hz6).trans hz)⟩
  have HZ := Aside0.mk (And.intro hz hz6)
  clear hz hz6
  by_cases h100 : l.length > 100
  · have h100i : (l.length : Int) > 100 := by omega
    clear hr F
    go_enter Tryd.func3, Tryd.ntmps3
    go_wp2_with (first | (go_at_call 4; refine HA.out.mono ?_; rintro e w2 ⟨rfl, hb⟩; have HB := Aside0.mk hb; clear HA hb) | (go_at_call 4; refine (AW.out _ HB.out).mono ?_; rintro e w3 ⟨rfl, hb⟩; have HB3 := Aside0.mk (below_step HB.out hb); clear hb))
    go_ret
    exact ⟨rfl, HB3.out⟩
  · have h100i : ¬ (l.length : Int) > 100 := by omega
    by_cases h600 : s.size > 600
    · have h600i : (s.size : Int) > 600 := by omega
      clear hr F
      go_enter Tryd.func3, Tryd.ntmps3
      go_wp2_with (first | (go_at_call 4; refine HA.out.mono ?_; rintro e w2 ⟨rfl, hb⟩; have HB := Aside0.mk hb; clear HA hb) | (go_at_call 4; refine (AW.out _ HB.out).mono ?_; rintro e w3 ⟨rfl, hb⟩; have HB3 := Aside0.mk (below_step HB.out hb); clear hb))
      go_ret
      exact ⟨rfl, HB3.out⟩
    · have h600i : ¬ (s.size : Int) > 600 := by omega
      obtain ⟨⟨k7, h7⟩, ⟨k8, h8⟩, h9, hback⟩ := F (by omega) (by omega)
      have hcl := textS_len l
      obtain ⟨t, ht⟩ : ∃ t : ByteArray, t = ⟨(cursorS l).toArray⟩ := ⟨_, rfl⟩
      have htd : t.data.toList = cursorS l := by rw [ht]
      have htz : t.size ≤ 1000000 := by
        have h2 : t.size = t.data.toList.length := by simp
        rw [h2, htd]
        unfold cursorS
        split
        · simp
        · simp; omega
      rw [← ht] at h8
      rw [← htd] at hback
      have C5 : Aside0 (∀ W : World, Go.RowKit.Below w.heap.size w W → Calls Tryd.prog 5 #[.slice A0 l.length c0] W fun e w' => e = .returned (.string t) ∧ Go.RowKit.Below W.heap.size W w') := ⟨fun W hb => by rw [ht]; exact cursor_calls A0 c0 l W (Kd.C_below hr hb) hc (by omega) ((hb.cell (p := ⟨6, 15, none⟩) HZ.out.2).trans HZ.out.1)⟩
      have C8 : Aside0 (∀ W : World, Go.RowKit.Below w.heap.size w W → Calls Tryd.prog 8 #[.slice A0 l.length c0] W fun e w' => e = .returned (.string t) ∧ Go.RowKit.Below W.heap.size W w') := ⟨fun W hb => paronymref21_Cursor.calls k8 A0 c0 l t W (Kd.C_below hr hb) hc h8⟩
      have C6 : Aside0 (∀ (u : ByteArray) (W : World), u.size ≤ 1000000 → Go.RowKit.Below w.heap.size w W → Calls Tryd.prog 6 #[.string u] W fun e w' => ∃ v, e = .returned (.tuple #[v, .int .i64 (parseS u.data.toList).2]) ∧ Kd.R (Kd.int .i64) 3 w' W.heap.size (fun _ => True) v (parseS u.data.toList).1 ∧ Go.RowKit.Below W.heap.size W w') := ⟨fun u W hu hb => parse_calls u W hu ((hb.cell (p := ⟨6, 15, none⟩) HZ.out.2).trans HZ.out.1)⟩
      obtain ⟨r, hr'⟩ : ∃ r, r = parseS s.data.toList := ⟨_, rfl⟩
      rw [← hr'] at h7
      obtain ⟨r1, r2⟩ := r
      have C7 : Aside0 (∀ (W : World), Calls Tryd.prog 7 #[.string s] W fun e w' => ∃ v, e = .returned (.tuple #[v, .int .i64 r2]) ∧ Kd.R (Kd.int .i64) 3 w' W.heap.size (fun _ => True) v r1 ∧ Go.RowKit.Below W.heap.size W w') := ⟨fun W => paronymref21_Parse.calls k7 s r1 r2 W h7⟩
      have C6s : Aside0 (∀ (W : World), Go.RowKit.Below w.heap.size w W → Calls Tryd.prog 6 #[.string s] W fun e w' => ∃ v, e = .returned (.tuple #[v, .int .i64 r2]) ∧ Kd.R (Kd.int .i64) 3 w' W.heap.size (fun _ => True) v r1 ∧ Go.RowKit.Below W.heap.size W w') := ⟨fun W hb => by have h := C6.out s W (by omega) hb; rw [← hr'] at h; exact h⟩
      obtain ⟨p, hp⟩ : ∃ p, p = parseS t.data.toList := ⟨_, rfl⟩
      obtain ⟨p1, p2⟩ := p
      have C6t : Aside0 (∀ (W : World), Go.RowKit.Below w.heap.size w W → Calls Tryd.prog 6 #[.string t] W fun e w' => ∃ v, e = .returned (.tuple #[v, .int .i64 p2]) ∧ Kd.R (Kd.int .i64) 3 w' W.heap.size (fun _ => True) v p1 ∧ Go.RowKit.Below W.heap.size W w') := ⟨fun W hb => by have h := C6.out t W htz hb; rw [← hp] at h; exact h⟩
      have C9 : Aside0 (∀ (q : List Int) (A B : Option Addr) (a b : Nat) (W : World), q.length ≤ 1000000 → Kd.C (Kd.int .i64) W A q.length q → q.length ≤ a → Kd.C (Kd.int .i64) W B q.length q → q.length ≤ b → Calls Tryd.prog 9 #[.slice A q.length a, .slice B q.length b] W fun e w' => e = .returned (.bool true) ∧ Go.RowKit.Below W.heap.size W w') := ⟨fun q A B a b W hq h1 h2 h3 h4 => by
        obtain ⟨k, hk⟩ := h9 q hq
        exact (paronymref01_Same.calls k A a q B b q true W h1 h2 h3 h4 hk).mono fun e w' h => ⟨h.1, h.2.below⟩⟩
      rw [← hp, htd] at hback
      have hr1 : r1.length ≤ 1000000 := by
        have h := parseS_len s.data.toList
        rw [← hr'] at h
        exact Nat.le_trans h (by omega)
      have HR := Aside0.mk (And.intro hr (And.intro hc hr1))
      have HBK := Aside0.mk hback
      have HT := Aside0.mk htd
      clear hr hback h7 h8 h9 hp hr' ht htd htz C6 hcl hr1 hc
      have HB := Aside0.mk (Go.RowKit.Below.refl w.heap.size w)
      by_cases hd : cursorS l = [45]
      · have hpp := HBK.out
        rw [if_pos hd] at hpp
        injection hpp with e1 e2
        subst e1 e2
        have hb0 : (t.toList == [45]) = true := by rw [ByteArray.toList_eq, HT.out, hd]; rfl
        clear hd
        go_enter Tryd.func3, Tryd.ntmps3
        go_wp2_with (first
          | (go_at_call 4; refine (AW.out _ HB.out).mono ?_; rintro e w2 ⟨rfl, hb⟩; have n_ := Aside0.mk (below_step HB.out hb); clear HB; have HB := n_; clear n_ hb)
          | (go_at_call 5; refine (C5.out _ HB.out).mono ?_; rintro e w3 ⟨rfl, hb⟩; have n_ := Aside0.mk (below_step HB.out hb); clear HB; have HB := n_; clear n_ hb)
          | (go_at_call 6; with_reducible refine (C6t.out _ HB.out).mono ?_; rintro e w4 ⟨v4, rfl, hR4, hb⟩; obtain ⟨A4, c4, rfl⟩ := Kd.R_slice hR4; have HR4 := Aside0.mk hR4; have n_ := Aside0.mk (below_step HB.out hb); clear HB; have HB := n_; clear n_ hb; clear hR4 C6t)
          | (go_at_call 6; with_reducible refine (C6s.out _ HB.out).mono ?_; rintro e w5 ⟨v5, rfl, hR5, hb⟩; obtain ⟨A5, c5, rfl⟩ := Kd.R_slice hR5; have HR5 := Aside0.mk hR5; have m_ := Aside0.mk (Kd.R_below HR4.out hb); clear HR4; have HR4 := m_; clear m_; have n_ := Aside0.mk (below_step HB.out hb); clear HB; have HB := n_; clear n_ hb; clear hR5)
          | (go_at_call 7; with_reducible refine (C7.out _).mono ?_; rintro e w6 ⟨v6, rfl, hR6, hb⟩; obtain ⟨A6, c6, rfl⟩ := Kd.R_slice hR6; have HR6 := Aside0.mk hR6; have m_ := Aside0.mk (Kd.R_below HR5.out hb); clear HR5; have HR5 := m_; clear m_; have m_ := Aside0.mk (Kd.R_below HR4.out hb); clear HR4; have HR4 := m_; clear m_; have n_ := Aside0.mk (below_step HB.out hb); clear HB; have HB := n_; clear n_ hb; clear hR6)
          | (go_at_call 8; with_reducible refine (C8.out _ HB.out).mono ?_; rintro e w7 ⟨rfl, hb⟩; have m_ := Aside0.mk (Kd.R_below HR6.out hb); clear HR6; have HR6 := m_; clear m_; have m_ := Aside0.mk (Kd.R_below HR5.out hb); clear HR5; have HR5 := m_; clear m_; have m_ := Aside0.mk (Kd.R_below HR4.out hb); clear HR4; have HR4 := m_; clear m_; have n_ := Aside0.mk (below_step HB.out hb); clear HB; have HB := n_; clear n_ hb)
          | (go_at_call 9; with_reducible refine (C9.out r1 A5 A6 c5 c6 w7 HR.out.2.2 (Kd.R_reads' HR5.out).2.2 (Kd.R_reads' HR5.out).2.1 (Kd.R_reads' HR6.out).2.2 (Kd.R_reads' HR6.out).2.1).mono ?_; rintro e w8 ⟨rfl, hb⟩; have m_ := Aside0.mk (Kd.R_below HR4.out hb); clear HR4; have HR4 := m_; clear m_; have n_ := Aside0.mk (below_step HB.out hb); clear HB; have HB := n_; clear n_ hb; clear HR6))
        go_ret
        exact ⟨by first | rfl | (simp; done), HB.out⟩
      · have hpp := HBK.out
        rw [if_neg hd] at hpp
        have hb0 : (t.toList == [45]) = false := by rw [ByteArray.toList_eq, HT.out, beq_eq_false_iff_ne]; exact hd
        clear hd
        by_cases h63 : 63 < l.length
        · rw [if_pos h63] at hpp
          injection hpp with e1 e2
          subst e1 e2
          have h63i : (l.length : Int) > 63 := by omega
          have h63j : ¬ ((l.length : Int) ≤ 63) := by omega
          clear h63
          go_enter Tryd.func3, Tryd.ntmps3
          go_wp2_with (first
            | (go_at_call 4; refine (AW.out _ HB.out).mono ?_; rintro e w2 ⟨rfl, hb⟩; have n_ := Aside0.mk (below_step HB.out hb); clear HB; have HB := n_; clear n_ hb)
            | (go_at_call 5; refine (C5.out _ HB.out).mono ?_; rintro e w3 ⟨rfl, hb⟩; have n_ := Aside0.mk (below_step HB.out hb); clear HB; have HB := n_; clear n_ hb)
            | (go_at_call 6; with_reducible refine (C6t.out _ HB.out).mono ?_; rintro e w4 ⟨v4, rfl, hR4, hb⟩; obtain ⟨A4, c4, rfl⟩ := Kd.R_slice hR4; have HR4 := Aside0.mk hR4; have n_ := Aside0.mk (below_step HB.out hb); clear HB; have HB := n_; clear n_ hb; clear hR4 C6t)
            | (go_at_call 6; with_reducible refine (C6s.out _ HB.out).mono ?_; rintro e w5 ⟨v5, rfl, hR5, hb⟩; obtain ⟨A5, c5, rfl⟩ := Kd.R_slice hR5; have HR5 := Aside0.mk hR5; have m_ := Aside0.mk (Kd.R_below HR4.out hb); clear HR4; have HR4 := m_; clear m_; have n_ := Aside0.mk (below_step HB.out hb); clear HB; have HB := n_; clear n_ hb; clear hR5)
            | (go_at_call 7; with_reducible refine (C7.out _).mono ?_; rintro e w6 ⟨v6, rfl, hR6, hb⟩; obtain ⟨A6, c6, rfl⟩ := Kd.R_slice hR6; have HR6 := Aside0.mk hR6; have m_ := Aside0.mk (Kd.R_below HR5.out hb); clear HR5; have HR5 := m_; clear m_; have m_ := Aside0.mk (Kd.R_below HR4.out hb); clear HR4; have HR4 := m_; clear m_; have n_ := Aside0.mk (below_step HB.out hb); clear HB; have HB := n_; clear n_ hb; clear hR6)
            | (go_at_call 8; with_reducible refine (C8.out _ HB.out).mono ?_; rintro e w7 ⟨rfl, hb⟩; have m_ := Aside0.mk (Kd.R_below HR6.out hb); clear HR6; have HR6 := m_; clear m_; have m_ := Aside0.mk (Kd.R_below HR5.out hb); clear HR5; have HR5 := m_; clear m_; have m_ := Aside0.mk (Kd.R_below HR4.out hb); clear HR4; have HR4 := m_; clear m_; have n_ := Aside0.mk (below_step HB.out hb); clear HB; have HB := n_; clear n_ hb)
            | (go_at_call 9; with_reducible refine (C9.out r1 A5 A6 c5 c6 w7 HR.out.2.2 (Kd.R_reads' HR5.out).2.2 (Kd.R_reads' HR5.out).2.1 (Kd.R_reads' HR6.out).2.2 (Kd.R_reads' HR6.out).2.1).mono ?_; rintro e w8 ⟨rfl, hb⟩; have m_ := Aside0.mk (Kd.R_below HR4.out hb); clear HR4; have HR4 := m_; clear m_; have n_ := Aside0.mk (below_step HB.out hb); clear HB; have HB := n_; clear n_ hb; clear HR6))
          go_ret
          exact ⟨by first | rfl | (simp; done), HB.out⟩
        · rw [if_neg h63] at hpp
          injection hpp with e1 e2
          subst e1 e2
          have h63i : ¬ (p1.length : Int) > 63 := by omega
          have h63j : (p1.length : Int) ≤ 63 := by omega
          clear h63
          go_enter Tryd.func3, Tryd.ntmps3
          go_wp2_with (first
            | (go_at_call 4; refine (AW.out _ HB.out).mono ?_; rintro e w2 ⟨rfl, hb⟩; have n_ := Aside0.mk (below_step HB.out hb); clear HB; have HB := n_; clear n_ hb)
            | (go_at_call 5; refine (C5.out _ HB.out).mono ?_; rintro e w3 ⟨rfl, hb⟩; have n_ := Aside0.mk (below_step HB.out hb); clear HB; have HB := n_; clear n_ hb)
            | (go_at_call 6; with_reducible refine (C6t.out _ HB.out).mono ?_; rintro e w4 ⟨v4, rfl, hR4, hb⟩; obtain ⟨A4, c4, rfl⟩ := Kd.R_slice hR4; have HR4 := Aside0.mk hR4; have n_ := Aside0.mk (below_step HB.out hb); clear HB; have HB := n_; clear n_ hb; clear hR4 C6t)
            | (go_at_call 6; with_reducible refine (C6s.out _ HB.out).mono ?_; rintro e w5 ⟨v5, rfl, hR5, hb⟩; obtain ⟨A5, c5, rfl⟩ := Kd.R_slice hR5; have HR5 := Aside0.mk hR5; have m_ := Aside0.mk (Kd.R_below HR4.out hb); clear HR4; have HR4 := m_; clear m_; have n_ := Aside0.mk (below_step HB.out hb); clear HB; have HB := n_; clear n_ hb; clear hR5)
            | (go_at_call 7; with_reducible refine (C7.out _).mono ?_; rintro e w6 ⟨v6, rfl, hR6, hb⟩; obtain ⟨A6, c6, rfl⟩ := Kd.R_slice hR6; have HR6 := Aside0.mk hR6; have m_ := Aside0.mk (Kd.R_below HR5.out hb); clear HR5; have HR5 := m_; clear m_; have m_ := Aside0.mk (Kd.R_below HR4.out hb); clear HR4; have HR4 := m_; clear m_; have n_ := Aside0.mk (below_step HB.out hb); clear HB; have HB := n_; clear n_ hb; clear hR6)
            | (go_at_call 8; with_reducible refine (C8.out _ HB.out).mono ?_; rintro e w7 ⟨rfl, hb⟩; have m_ := Aside0.mk (Kd.R_below HR6.out hb); clear HR6; have HR6 := m_; clear m_; have m_ := Aside0.mk (Kd.R_below HR5.out hb); clear HR5; have HR5 := m_; clear m_; have m_ := Aside0.mk (Kd.R_below HR4.out hb); clear HR4; have HR4 := m_; clear m_; have n_ := Aside0.mk (below_step HB.out hb); clear HB; have HB := n_; clear n_ hb)
            | (go_at_call 9; with_reducible refine (C9.out r1 A5 A6 c5 c6 w7 HR.out.2.2 (Kd.R_reads' HR5.out).2.2 (Kd.R_reads' HR5.out).2.1 (Kd.R_reads' HR6.out).2.2 (Kd.R_reads' HR6.out).2.1).mono ?_; rintro e w8 ⟨rfl, hb⟩; have m_ := Aside0.mk (Kd.R_below HR4.out hb); clear HR4; have HR4 := m_; clear m_; have n_ := Aside0.mk (below_step HB.out hb); clear HB; have HB := n_; clear n_ hb; clear HR6)
            | (go_at_call 9; with_reducible refine (C9.out p1 A4 A0 c4 c0 w8 (by omega) (Kd.R_reads' HR4.out).2.2 (Kd.R_reads' HR4.out).2.1 (Kd.C_below HR.out.1 HB.out) HR.out.2.1).mono ?_; rintro e w9 ⟨rfl, hb⟩; have n_ := Aside0.mk (below_step HB.out hb); clear HB; have HB := n_; clear n_ hb))
          go_ret
          exact ⟨by first | rfl | (simp; done), HB.out⟩
end Go.Proofs.YtgfmplhpoblleaaDoor.FieldW
