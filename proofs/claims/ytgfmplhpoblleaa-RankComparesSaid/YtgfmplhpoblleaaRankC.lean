/- rank.Merge, rank.Sort: the finds of all lists, sorted, each once. -/
import Derived.Test.YtgfmplhpoblleaaRankB
import Derived.Outline
namespace Go.Proofs.Ytgfmplhpoblleaa.RankW
open Go.RowKit Go.Proofs.YtgfmplhpoblleaaW.PrintWords Go.Proofs.YtgfmplhpoblleaaW.PrintLast Go.Proofs.YtgfmplhpoblleaaW.PrintMore Go.Proofs.Ytgfmplhpoblleaa.PRank Go.Proofs.Ytgfmplhpoblleaa.SortOwn Go.Proofs.Ytgfmplhpoblleaa
open Go.Proofs.Ytgfmplhpoblleaa.Cmps hiding dedup
set_option linter.unusedVariables false
set_option linter.unusedSimpArgs false

set_option maxHeartbeats 800000 in
set_option maxRecDepth 100000 in
theorem compact_small (A : Option Addr) (n cap : Nat) (fv : Value) (w : World) (h : n < 2) :
    Calls Try.prog 73 #[.slice A n cap, fv] w fun e w' => e = .returned (.slice A n cap) ∧ w' = w := by
  have hlt2 : decide (n < 2) = true := decide_eq_true (by omega)
  have hlt2' : decide ((n : Int) < 2) = true := decide_eq_true (by omega)
  go_enter Try.func73, Try.ntmps73
  go_wp2
  go_ret
  exact ⟨rfl, rfl⟩

theorem length_flatten_le {α : Type} (ls : List (List α)) (l : List α) (h : l ∈ ls) : l.length ≤ ls.flatten.length := by
  induction ls with
  | nil => cases h
  | cons a r ih =>
    rw [List.flatten_cons, List.length_append]
    rcases List.mem_cons.1 h with rfl | h
    · omega
    · have := ih h; omega
theorem take_flatten_snoc {α : Type} (ls : List (List α)) (i : Nat) (hi : i < ls.length) : (ls.take (i + 1)).flatten = (ls.take i).flatten ++ ls[i] := by
  rw [List.take_succ_eq_append_getElem hi, List.flatten_append]; simp
theorem take_flatten_len {α : Type} (ls : List (List α)) (i j : Nat) (hi : i < ls.length) (hj : j ≤ ls[i].length) : ((ls.take i).flatten ++ ls[i].take j).length ≤ ls.flatten.length := by
  have h1 := take_flatten_snoc ls i hi
  have h2 : (ls.take (i + 1)).flatten.length ≤ ls.flatten.length := by
    conv => rhs; rw [← List.take_append_drop (i + 1) ls, List.flatten_append, List.length_append]
    omega
  rw [h1, List.length_append] at h2
  rw [List.length_append, List.length_take]
  omega

theorem cmpF_cmp : IsCmp cmpF :=
  or_cons (cmpI_cmp.pull fun x : S33 => num x.f3) (or_cons (cmpI_cmp.pull fun x : S33 => x.f4) (or_cons (cmpL_cmp.pull fun x : S33 => x.f0) (or_cons (cmpI_cmp.pull fun x : S33 => x.f1) (or_cons (cmpI_cmp.pull fun x : S33 => x.f2) or_nil))))
theorem num_inj {a b : Bool} (h : num a = num b) : a = b := by cases a <;> cases b <;> simp [num] at h <;> rfl
theorem cmpF_eq (x y : S33) (h : cmpF x y = 0) : x = y := by
  have h1 := or_zero.1 h
  have a := num_inj (cmpI_eq.1 (h1 (cmpI (num x.f3) (num y.f3)) (by simp)))
  have b := cmpI_eq.1 (h1 (cmpI x.f4 y.f4) (by simp))
  have c := cmpL_eq.1 (h1 (cmpL x.f0 y.f0) (by simp))
  have d := cmpI_eq.1 (h1 (cmpI x.f1 y.f1) (by simp))
  have e := cmpI_eq.1 (h1 (cmpI x.f2 y.f2) (by simp))
  cases x; cases y; simp at a b c d e; subst a b c d e; rfl

theorem own_form {α : Type} {d : Kd α} {e base : Nat} {ok : Nat → Prop} {w : World} {v : Value} {xs : List α} (h : Kd.N d e w base ok v xs) (hn : 0 < xs.length) : ∃ g cap, v = .slice (some ⟨g, 0, none⟩) xs.length cap := by
  obtain ⟨cells, hown, _, _⟩ := N_parts h
  rcases hown.2 with ⟨_, h0⟩ | ⟨g, cap, cur, rfl, _⟩
  · omega
  · exact ⟨g, cap, rfl⟩

/-- What clone has made is none of an elder row. -/
theorem label_fk {W : World} {base bs : Nat} {ok : Nat → Prop} {v u : Value} {x : S33} {xs : List S33} {wr : World} (h : Kd.R (Kd.int .i64) 3 W bs (fun _ => True) v x.f0) (hN : Kd.N k33 33 wr base ok u xs) (hs : wr.heap.size ≤ bs) (hb : base ≤ bs) :
    Kd.FK k33 W (fun k => bs ≤ k) x [v, .int .i64 x.f1, .int .i64 x.f2, .bool x.f3, .int .i64 x.f4] ∧ ∀ k, bs ≤ k → base ≤ k ∧ some k ≠ u.ownBlock :=
  ⟨Kd.FK_of_M (k33_mkM _ bs _ x (Kd.R_mono (Kd.R_bound h) (fun k hk => hk.2.1))), fun k hk => ⟨by omega, fun he => by have := Kd.N_lt hN k he.symm; omega⟩⟩

set_option maxHeartbeats 4000000 in
set_option maxRecDepth 100000 in
/-- rank.Merge. -/
theorem merge_calls (w : World) (A : Option Addr) (c : Nat) (ls : List (List S33)) (hr : Kd.C (Kd.slice 33 k33) w A ls.length ls) (hc : ls.length ≤ c) (hmax : ls.flatten.length ≤ 1000000000) (hlab : ∀ l ∈ ls, ∀ x ∈ l, x.f0.length ≤ 1000000000000) :
    Calls Try.prog 32 #[.slice A ls.length c] w fun e w' => ∃ v s, e = .returned v ∧ s.Perm ls.flatten ∧ s.Pairwise (fun a b => ¬ cmpF b a < 0) ∧ Kd.N k33 33 w' w.heap.size (fun k => w.heap.size ≤ k) v (Cmps.dedup cmpF s) ∧ Below w.heap.size w w' := by
  have HR := Aside0.mk hr
  have HX := Aside0.mk hlab
  have HM := Aside0.mk hmax
  clear hr hlab hmax
  have hlen : ls.length ≤ 9223372036854775807 := HR.out.2.1
  go_enter Try.func32, Try.ntmps32
  go_wp2
  go_loopw [3, 10] (fun ov iv wr => ∃ i : Nat, i ≤ ls.length ∧ iv = .int .i64 i ∧ Kd.N k33 33 wr w.heap.size (fun k => w.heap.size ≤ k) ov (ls.take i).flatten ∧ Below w.heap.size w wr) (fun _ iv _ => ls.length - (intOf iv).toNat)
  case atStart => exact ⟨0, Nat.zero_le _, rfl, Kd.N_nil _ _ _ _ _, Below.refl _ _⟩
  case round =>
    obtain ⟨i, hi, rfl, hN, hb⟩ := hrel
    have HN := Aside0.mk hN
    have HB := Aside0.mk hb
    clear hN hb
    by_cases hlt : i < ls.length
    · have hgt : ls.getD (i : Int).toNat [] = ls[i] := by simp [hlt]
      obtain ⟨ad, ch, hA, _, hK, hcell⟩ := Kd.C_get HR.out ([] : List S33) (i : Int) (by omega) (by omega)
      rw [hgt] at hK
      obtain ⟨A1, c1, rfl, hl1, hC1⟩ := hK
      have hc0 : wr.cell? (ad.add i) = some (.slice A1 ls[i].length c1) := by have := pw_cell_below HB.out (hcell 0 _ rfl); simpa [Kd.slice] using this
      clear hcell hgt
      have HA := Aside0.mk hA
      subst hA
      have HC1 := Aside0.mk (And.intro hl1 hC1)
      clear hl1 hC1 HA
      have hli : ls[i].length ≤ 1000000000 := by
        have h1 : ls[i].length ≤ ls.flatten.length := length_flatten_le ls ls[i] (List.getElem_mem _)
        have := HM.out; omega
      have i1 : (0 : Int) ≤ (i : Int) := by omega
      have i2 : (i : Int) < (ls.length : Int) := by omega
      go_wp2
      clear hc0
      go_loopw [3, 16] (fun ov jv wr => ∃ j : Nat, j ≤ ls[i].length ∧ jv = .int .i64 j ∧ Kd.N k33 33 wr w.heap.size (fun k => w.heap.size ≤ k) ov ((ls.take i).flatten ++ ls[i].take j) ∧ Below w.heap.size w wr) (fun _ jv _ => ls[i].length - (intOf jv).toNat)
      case atStart => exact ⟨0, Nat.zero_le _, rfl, by simpa using HN.out, HB.out⟩
      case round =>
        obtain ⟨j, hj, rfl, hN2, hb2⟩ := hrel
        have N2 := Aside0.mk hN2
        have B2 := Aside0.mk hb2
        clear hN2 hb2
        by_cases hlt2 : j < ls[i].length
        · obtain ⟨ad2, A3, c3, hA2, q0, q1, q2, q3, q4, hl3, hC3⟩ := at_T33 (Kd.C_below HC1.out.2 B2.out) (j : Int) (by omega) (by omega)
          have hx : rd_T33 ls[i] (j : Int) = ls[i][j] := by unfold rd_T33; simp [hlt2]
          rw [hx] at q0 q1 q2 q3 q4 hl3 hC3
          simp only [Int.toNat_natCast] at q0 q1 q2 q3 q4
          have HA2 := Aside0.mk hA2
          subst hA2
          obtain ⟨x, hxx⟩ : ∃ x, x = ls[i][j] := ⟨_, rfl⟩
          rw [← hxx] at q0 q1 q2 q3 q4 hl3 hC3
          have HXX := Aside0.mk hxx
          have C3 := Aside0.mk (And.intro hl3 hC3)
          have hxl : x.f0.length ≤ 1000000000000 := by rw [hxx]; exact HX.out ls[i] (List.getElem_mem _) _ (List.getElem_mem _)
          clear hx hl3 hC3 HA2 hxx
          have j1 : (0 : Int) ≤ (j : Int) := by omega
          have j2 : (j : Int) < (ls[i].length : Int) := by omega
          go_wp2_with fail
          refine (clone_calls A3 c3 x.f0 x.f1 x.f2 x.f3 x.f4 _ (Kd.C_below C3.out.2 (below_alloc (Below.refl _ _) _)) (by omega)).mono ?_
          rintro e w1 ⟨v, rfl, hov, hbv⟩
          have b4 : Below wr.heap.size wr w1 := ((Below.refl _ _).alloc (Nat.le_refl _) _).trans (hbv.mono (by simp))
          have hsz : wr.heap.size + 1 ≤ w1.heap.size := by have := hbv.size; simpa using this
          have N4 := Aside0.mk (Kd.N_below N2.out b4)
          have B4 := Aside0.mk (B2.out.trans (b4.mono B2.out.size))
          have FK := Aside0.mk (label_fk hov N2.out (by simp) (by have := B2.out.size; simp; omega))
          obtain ⟨A5, c5, rfl⟩ := Kd.R_slice hov
          have SZ := Aside0.mk hsz
          have LEN := Aside0.mk (take_flatten_len ls i j hlt (by omega))
          clear hov hbv b4 hsz q0 q1 q2 q3 q4
          go_wp2_with ((with_reducible refine gate_dst (N := 24) rfl ?_); refine Kd.N_append k33 (w0 := w) w.heap.size rfl (.tmp 20) (.tmp 23) 35 33 (.agg #[(.slice none 0 0), (.int .i64 0), (.int .i64 0), (.bool false), (.int .i64 0)]) 56 rfl Try.underlying35 info33 rfl (by decide) (by omega) _ _ x [.slice A5 x.f0.length c5, .int .i64 x.f1, .int .i64 x.f2, .bool x.f3, .int .i64 x.f4] (fun k => w.heap.size ≤ k) _ rfl rfl FK.out.1 FK.out.2 (fun k hk => Nat.le_trans (below_size B4.out) hk) N4.out B4.out (below_size B4.out) ?aL ?_; (case aL => (have h1 := LEN.out; have h2 := HM.out; omega)); intro v6 w6 hN6 hB6 hg6 hat6; have N6 := Aside0.mk hN6; have B6 := Aside0.mk hB6; have G6 := Aside0.mk hg6; clear hN6 hB6 hg6 hat6)
          go_roundw
          case rel =>
            refine ⟨j + 1, by omega, by go_num, ?_, B6.out⟩
            have h1 := N6.out
            rw [HXX.out, List.append_assoc, ← List.take_succ_eq_append_getElem hlt2] at h1
            exact h1
          case measure => simp [intOf]; omega
        · have hje : j = ls[i].length := by omega
          have HJ := Aside0.mk hje
          clear hje
          have e1 : decide ((j : Int) < (ls[i].length : Int)) = false := decide_eq_false (by omega)
          have e2 : decide (j < ls[i].length) = false := decide_eq_false (by omega)
          go_wp2
          go_roundw
          case rel =>
            refine ⟨i + 1, by omega, by go_num, ?_, B2.out⟩
            rw [take_flatten_snoc ls i hlt]
            have := N2.out
            rw [HJ.out, List.take_length] at this
            exact this
          case measure => simp [intOf]; omega
    · have hie : i = ls.length := by omega
      have HI := Aside0.mk hie
      clear hie
      have e1 : decide ((i : Int) < (ls.length : Int)) = false := decide_eq_false (by omega)
      have e2 : decide (i < ls.length) = false := decide_eq_false (by omega)
      have hfl : ((ls.take i).flatten) = ls.flatten := by rw [HI.out, List.take_length]
      rw [hfl] at HN
      clear hfl
      obtain ⟨cells, hown, hrep, h0⟩ := N_parts HN.out
      have hsort := sort_row Try.sortFinds 5 (by decide) Try.isAgg33 Try.sizeOf33
        (fun x c => Kd.FK k33 wr (fun k => w.heap.size ≤ k ∧ some k ≠ u3.ownBlock) x c ∧ x.f0.length ≤ 1000000000000)
        (fun x c h => k33.K_len (Kd.FK_now h.1)) (fun x c h => k33.K_one (Kd.FK_now h.1)) cmpF cmpF_cmp.swo 25 #[] wr (enters_of Try.func25 (by kernel_rfl) rfl) w.heap.size 33 u3 ls.flatten cells (by have := HM.out; omega)
        (fun W' hg x c y c' hx hy => by
          obtain ⟨A7, c7, rfl, hl7, hC7⟩ := k33_open (Kd.FK_now (Kd.FK_step hx.1 (fun k hk hlt => hg.block k hlt hk.2)))
          obtain ⟨A8, c8, rfl, hl8, hC8⟩ := k33_open (Kd.FK_now (Kd.FK_step hy.1 (fun k hk hlt => hg.block k hlt hk.2)))
          exact compare_grows A7 c7 A8 c8 x y W' hC7 hl7 hC8 hl8 hx.2)
        hown ⟨hrep.1, fun j x hx => ⟨hrep.2 j x hx, by
          obtain ⟨l, hl, hxl⟩ := List.mem_flatten.1 (List.mem_of_getElem? hx)
          exact HX.out l hl x hxl⟩⟩
      change Calls Try.prog 72 _ _ _ at hsort
      have HS := Aside0.mk hsort
      clear hsort hown hrep
      go_wp2_with fail
      refine HS.out.mono ?_
      rintro e w1 ⟨rfl, xs', cells', hperm, hpair, hrep', hown', hg'⟩
      have hrepF : Reps (fun x c => Kd.FK k33 wr (fun k => w.heap.size ≤ k ∧ some k ≠ u3.ownBlock) x c) k33.sz xs' cells' := ⟨hrep'.1, fun j x hx => (hrep'.2 j x hx).1⟩
      have N1 := Aside0.mk (N_of_parts (d := k33) (ok := fun k => w.heap.size ≤ k) hown' (Reps_grown hrepF hg') h0)
      have B1 : Below w.heap.size w w1 := HB.out.grown hg' HB.out.size (fun k hk => (Kd.N_base HN.out k hk))
      have B1' := Aside0.mk B1
      have P1 := Aside0.mk (And.intro hperm hpair)
      have X1 := Aside0.mk (fun x (hx : x ∈ xs') => by
        obtain ⟨l, hl, hxl⟩ := List.mem_flatten.1 (hperm.mem_iff.1 hx)
        exact HX.out l hl x hxl : ∀ x ∈ xs', x.f0.length ≤ 1000000000000)
      have L1 := Aside0.mk (by have := HM.out; rw [hperm.length_eq]; omega : xs'.length ≤ 1000000000000)
      clear hown' hrepF hrep' hg' hperm hpair B1 HS
      by_cases h2 : 2 ≤ xs'.length
      · obtain ⟨g, cap, rfl⟩ := own_form N1.out (by omega)
        have hcmp := compact_calls (fun k => w.heap.size ≤ k) w1 w.heap.size g cap xs' h2 L1.out X1.out N1.out
        have HCM := Aside0.mk hcmp
        clear hcmp
        go_wp2_with (go_at_call 73; refine HCM.out.mono ?_; rintro e w2 ⟨v2, rfl, hN2, hg2⟩; have N2 := Aside0.mk hN2; have G2 := Aside0.mk hg2; clear hN2 hg2)
        go_ret
        exact ⟨_, rfl, xs', P1.out.1, P1.out.2, N2.out, B1'.out.grown G2.out B1'.out.size (fun k hk => by injection hk with hk; subst hk; exact Kd.N_base N1.out _ (by simp [Value.ownBlock]))⟩
      · obtain ⟨A9, c9, rfl, _, _⟩ := Kd.N_reads N1.out
        have hsm := compact_small A9 xs'.length c9 (.func (.func 74) #[] #[]) w1 (by omega)
        have HSM := Aside0.mk hsm
        clear hsm
        have hd : Cmps.dedup cmpF xs' = xs' := by
          rcases xs' with _ | ⟨a, _ | ⟨b, r⟩⟩
          · rfl
          · rfl
          · simp at h2
        have HDD := Aside0.mk hd
        clear hd
        go_wp2_with (go_at_call 73; refine HSM.out.mono ?_; rintro e w2 ⟨rfl, rfl⟩)
        go_ret
        exact ⟨_, rfl, xs', P1.out.1, P1.out.2, by rw [HDD.out]; exact N1.out, B1'.out⟩
end Go.Proofs.Ytgfmplhpoblleaa.RankW
