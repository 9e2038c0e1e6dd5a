/- rank.Merge's closure, slices.CompactFunc over finds. -/
import Derived.Test.YtgfmplhpoblleaaRankA
import Derived.Test.YtgfmplhpoblleaaClearRow
namespace Go.Proofs.Ytgfmplhpoblleaa.RankW
open Go.RowKit Go.Proofs.YtgfmplhpoblleaaW.PrintWords Go.Proofs.YtgfmplhpoblleaaW.PrintLast Go.Proofs.YtgfmplhpoblleaaW.PrintMore Go.Proofs.Ytgfmplhpoblleaa.PRank Go.Proofs.Ytgfmplhpoblleaa.SortOwn Go.Proofs.Ytgfmplhpoblleaa.ClearRow Go.Proofs.Ytgfmplhpoblleaa
open Go.Proofs.Ytgfmplhpoblleaa.Cmps hiding dedup
set_option linter.unusedVariables false
set_option linter.unusedSimpArgs false

/-- A find as a value: its label lies at A. -/
abbrev fv (x : S33) (A : Option Addr) (c : Nat) : Value := .agg #[.slice A x.f0.length c, .int .i64 x.f1, .int .i64 x.f2, .bool x.f3, .int .i64 x.f4]

set_option maxHeartbeats 800000 in
set_option maxRecDepth 100000 in
/-- rank.Merge's closure: do two finds compare as one? -/
theorem same_grows (A0 : Option Addr) (c0 : Nat) (A1 : Option Addr) (c1 : Nat) (x y : S33) (w : World) (hr0 : Kd.C (Kd.int .i64) w A0 x.f0.length x.f0) (hc0 : x.f0.length ≤ c0) (hr1 : Kd.C (Kd.int .i64) w A1 y.f0.length y.f0) (hc1 : y.f0.length ≤ c1) (hl : x.f0.length ≤ 1000000000000) :
    Calls Try.prog 74 #[.agg #[.slice A0 x.f0.length c0, .int .i64 x.f1, .int .i64 x.f2, .bool x.f3, .int .i64 x.f4], .agg #[.slice A1 y.f0.length c1, .int .i64 y.f1, .int .i64 y.f2, .bool y.f3, .int .i64 y.f4]] w fun e w' => e = .returned (.bool (cmpF x y == 0)) ∧ Grows w w' := by
  have HR0 := Aside0.mk hr0
  have HR1 := Aside0.mk hr1
  have HC := Aside0.mk (And.intro hc0 (And.intro hc1 hl))
  clear hr0 hc0 hr1 hc1 hl
  go_enter Try.func74, Try.ntmps74
  go_wp2_with ((go_at_call 25; refine (compare_grows A0 c0 A1 c1 x y _ (Kd.C_below HR0.out (below_alloc (below_alloc (Below.refl _ _) _) _)) HC.out.1 (Kd.C_below HR1.out (below_alloc (below_alloc (Below.refl _ _) _) _)) HC.out.2.1 HC.out.2.2).mono ?_; rintro e w1 ⟨rfl, hg⟩; have HG := Aside0.mk hg; clear hg))
  go_ret
  exact ⟨rfl, (((Grows.refl w).alloc _).alloc _).trans HG.out⟩

/-! ### What CompactFunc leaves -/
/-- An element of a row of finds: its cells, and its label. -/
theorem find_at {w : World} {base g n cap : Nat} {ok : Nat → Prop} {xs : List S33} (h : Kd.N k33 33 w base ok (.slice (some ⟨g, 0, none⟩) n cap) xs) (i : Nat) (hi : i < xs.length) :
    ∃ A c, w.cell? ⟨g, i * 5, none⟩ = some (.slice A xs[i].f0.length c) ∧ w.cell? ⟨g, i * 5 + 1, none⟩ = some (.int .i64 xs[i].f1) ∧ w.cell? ⟨g, i * 5 + 2, none⟩ = some (.int .i64 xs[i].f2) ∧ w.cell? ⟨g, i * 5 + 3, none⟩ = some (.bool xs[i].f3) ∧ w.cell? ⟨g, i * 5 + 4, none⟩ = some (.int .i64 xs[i].f4) ∧
      xs[i].f0.length ≤ c ∧ Kd.F (Kd.int .i64) w (fun k => ok k ∧ k ≠ g) A xs[i].f0.length xs[i].f0 := by
  have hn : n = xs.length := (Kd.N_reads' h).1
  obtain ⟨c, h1, h2, h3⟩ := Kd.N_get h z33 (i : Int) (by omega) (by omega)
  have ex : xs.getD (i : Int).toNat z33 = xs[i] := by simp [hi]
  rw [ex] at h2
  obtain ⟨A, c0, rfl, hl, hf⟩ := k33_openF h2
  have e : ∀ j, (⟨g, 0, none⟩ : Addr).add ((i : Int).toNat * k33.sz + j) = ⟨g, i * 5 + j, none⟩ := by
    intro j
    show (⟨g, 0, none⟩ : Addr).add (i * 5 + j) = _
    unfold Addr.add
    by_cases h0 : i * 5 + j = 0
    · rw [if_pos h0]; simp [h0]
    · rw [if_neg h0]; simp
  refine ⟨A, c0, ?_, ?_, ?_, ?_, ?_, hl, Kd.F_mono hf (fun k hk => ⟨hk.1, fun he => hk.2 (by simp [Value.ownBlock, he])⟩)⟩
  · have := h3 0 _ rfl; rwa [e, Nat.add_zero] at this
  · have := h3 1 _ rfl; rwa [e] at this
  · have := h3 2 _ rfl; rwa [e] at this
  · have := h3 3 _ rfl; rwa [e] at this
  · have := h3 4 _ rfl; rwa [e] at this

theorem same_b (b : Bool) (A0 : Option Addr) (c0 : Nat) (A1 : Option Addr) (c1 : Nat) (x y : S33) (w : World) (hb : (cmpF x y == 0) = b) (hr0 : Kd.C (Kd.int .i64) w A0 x.f0.length x.f0) (hc0 : x.f0.length ≤ c0) (hr1 : Kd.C (Kd.int .i64) w A1 y.f0.length y.f0) (hc1 : y.f0.length ≤ c1) (hl : x.f0.length ≤ 1000000000000) :
    Calls Try.prog 74 #[.agg #[.slice A0 x.f0.length c0, .int .i64 x.f1, .int .i64 x.f2, .bool x.f3, .int .i64 x.f4], .agg #[.slice A1 y.f0.length c1, .int .i64 y.f1, .int .i64 y.f2, .bool y.f3, .int .i64 y.f4]] w fun e w' => e = .returned (.bool b) ∧ Grows w w' := by
  subst hb
  exact same_grows A0 c0 A1 c1 x y w hr0 hc0 hr1 hc1 hl

theorem head_add (g n : Nat) : (⟨g, 0, none⟩ : Addr).add n = ⟨g, n, none⟩ := by
  unfold Addr.add
  by_cases h0 : n = 0
  · rw [if_pos h0, h0]
  · rw [if_neg h0, Nat.zero_add]
theorem take_drop5 (c : List Value) (hl : c.length = k33.sz) {seg : List Value} : c.take 0 ++ seg ++ c.drop (0 + 5) = seg := by
  have : c.length = 5 := hl
  rw [List.drop_of_length_le (by omega)]
  simp

theorem N_frozen {α : Type} {d : Kd α} {e : Nat} {w : World} {base g n cap : Nat} {ok : Nat → Prop} {xs : List α} (h : Kd.N d e w base ok (.slice (some ⟨g, 0, none⟩) n cap) xs) (i : Nat) : w.frozen? ⟨g, i, none⟩ = false := by
  obtain ⟨cells, hc⟩ := Kd.N_typed h g (by simp [Value.ownBlock])
  simp [World.frozen?, hc]

theorem put_find {w : World} {base g n cap : Nat} {ok : Nat → Prop} {xs : List S33} (h : Kd.N k33 33 w base ok (.slice (some ⟨g, 0, none⟩) n cap) xs) (i : Nat) (hi : i < xs.length) (x : S33) (A : Option Addr) (c : Nat) (hl : x.f0.length ≤ c) (hf : Kd.F (Kd.int .i64) w (fun k => ok k ∧ k ≠ g) A x.f0.length x.f0) :
    Kd.N k33 33 (((((w.setCell ⟨g, i * 5, none⟩ (.slice A x.f0.length c)).setCell ⟨g, i * 5 + 1, none⟩ (.int .i64 x.f1)).setCell ⟨g, i * 5 + 2, none⟩ (.int .i64 x.f2)).setCell ⟨g, i * 5 + 3, none⟩ (.bool x.f3)).setCell ⟨g, i * 5 + 4, none⟩ (.int .i64 x.f4)) base ok (.slice (some ⟨g, 0, none⟩) n cap) (xs.set i x) ∧
      w.grownBy (((((w.setCell ⟨g, i * 5, none⟩ (.slice A x.f0.length c)).setCell ⟨g, i * 5 + 1, none⟩ (.int .i64 x.f1)).setCell ⟨g, i * 5 + 2, none⟩ (.int .i64 x.f2)).setCell ⟨g, i * 5 + 3, none⟩ (.bool x.f3)).setCell ⟨g, i * 5 + 4, none⟩ (.int .i64 x.f4)) (some g) := by
  have hn : n = xs.length := (Kd.N_reads' h).1
  obtain ⟨c', h1, _, h3⟩ := Kd.N_get h z33 (i : Int) (by omega) (by omega)
  have := Kd.N_seg h (i : Int) (by omega) (by omega) (c := c') (seg := [.slice A x.f0.length c, .int .i64 x.f1, .int .i64 x.f2, .bool x.f3, .int .i64 x.f4]) (j := 0) h1 (fun j u hu => by have := h3 j u hu; rwa [head_add] at this) (Nat.le_refl 5) (x' := x) (okp := fun k => ok k ∧ k ≠ g)
    (by rw [show c'.take 0 ++ [Value.slice A x.f0.length c, .int .i64 x.f1, .int .i64 x.f2, .bool x.f3, .int .i64 x.f4] ++ c'.drop (0 + [Value.slice A x.f0.length c, .int .i64 x.f1, .int .i64 x.f2, .bool x.f3, .int .i64 x.f4].length) = [Value.slice A x.f0.length c, .int .i64 x.f1, .int .i64 x.f2, .bool x.f3, .int .i64 x.f4] from take_drop5 c' h1]; exact k33_mkF _ _ _ hl hf) (fun _ hk => hk)
  exact this

theorem N_some {w : World} {base g n cap : Nat} {ok : Nat → Prop} {xs : List S33} (h : Kd.N k33 33 w base ok (.slice (some ⟨g, 0, none⟩) n cap) xs) (i : Nat) (hi : i < n * 5) : (w.cell? ⟨g, i, none⟩).isSome = true := by
  have hn : n = xs.length := (Kd.N_reads' h).1
  have h1 : i / 5 < xs.length := by omega
  obtain ⟨A, c, h0, h1, h2, h3, h4, _⟩ := find_at h (i / 5) h1
  have hm : i = i / 5 * 5 + i % 5 := by omega
  have hr : i % 5 = 0 ∨ i % 5 = 1 ∨ i % 5 = 2 ∨ i % 5 = 3 ∨ i % 5 = 4 := by omega
  rcases hr with hr | hr | hr | hr | hr <;> rw [hr] at hm <;> rw [hm]
  · rw [Nat.add_zero, h0]; rfl
  · rw [h1]; rfl
  · rw [h2]; rfl
  · rw [h3]; rfl
  · rw [h4]; rfl
theorem one_zeros (m : Nat) : ∀ v ∈ (Builtin.zeroCells (Value.agg #[.slice none 0 0, .int .i64 0, .int .i64 0, .bool false, .int .i64 0]).cells m).toList, v.oneCell' = true := by
  intro v hv
  unfold Builtin.zeroCells at hv
  rw [Array.toList_map] at hv
  obtain ⟨i, _, rfl⟩ := List.mem_map.1 hv
  have h5 : i % 5 = 0 ∨ i % 5 = 1 ∨ i % 5 = 2 ∨ i % 5 = 3 ∨ i % 5 = 4 := by omega
  have hs : (Value.agg #[.slice none 0 0, .int .i64 0, .int .i64 0, .bool false, .int .i64 0]).cells.size = 5 := rfl
  rw [hs]
  rcases h5 with h | h | h | h | h <;> rw [h] <;> rfl

theorem cell_grows {W w2 : World} {a : Addr} {v : Value} (h : Grows W w2) (hc : W.cell? a = some v) : w2.cell? a = some v := (h.below.cell (World.block_lt_of_cell? W a hc)).trans hc

/-- An element of what is still as it came, counted from a place on. -/
theorem find_in {w : World} {base g n cap p : Nat} {ok : Nat → Prop} {xs ys : List S33} (h : Kd.N k33 33 w base ok (.slice (some ⟨g, 0, none⟩) n cap) ys) (hl : ys.length = xs.length) (hd : ys.drop p = xs.drop p) (i m : Nat) (hp : p ≤ i + m) (hi : i + m < xs.length) :
    ∃ A c, w.cell? ⟨g, i * 5 + m * 5, none⟩ = some (.slice A xs[i + m].f0.length c) ∧ w.cell? ⟨g, i * 5 + m * 5 + 1, none⟩ = some (.int .i64 xs[i + m].f1) ∧ w.cell? ⟨g, i * 5 + m * 5 + 2, none⟩ = some (.int .i64 xs[i + m].f2) ∧ w.cell? ⟨g, i * 5 + m * 5 + 3, none⟩ = some (.bool xs[i + m].f3) ∧ w.cell? ⟨g, i * 5 + m * 5 + 4, none⟩ = some (.int .i64 xs[i + m].f4) ∧
      xs[i + m].f0.length ≤ c ∧ Kd.F (Kd.int .i64) w (fun k => ok k ∧ k ≠ g) A xs[i + m].f0.length xs[i + m].f0 := by
  have y1 : ys[i + m]'(by omega) = xs[i + m] := by
    have := congrArg (fun l => l[i + m - p]?) hd
    simp only [List.getElem?_drop] at this
    rw [show p + (i + m - p) = i + m by omega, List.getElem?_eq_getElem (by omega), List.getElem?_eq_getElem (by omega)] at this
    exact Option.some.inj this
  have := find_at h (i + m) (by omega)
  rw [y1, Nat.add_mul] at this
  exact this

set_option maxHeartbeats 4000000 in
set_option maxRecDepth 100000 in
/-- slices.CompactFunc over finds of the call's own: what stands alone, or first among its alike. -/
theorem compact_calls (ok : Nat → Prop) (w : World) (base g cap : Nat) (xs : List S33) (h2 : 2 ≤ xs.length) (hmax : xs.length ≤ 1000000000000) (hlab : ∀ x ∈ xs, x.f0.length ≤ 1000000000000)
    (hN : Kd.N k33 33 w base ok (.slice (some ⟨g, 0, none⟩) xs.length cap) xs) :
    Calls Try.prog 73 #[.slice (some ⟨g, 0, none⟩) xs.length cap, .func (.func 74) #[] #[]] w fun e w' => ∃ v, e = .returned v ∧ Kd.N k33 33 w' base ok v (Cmps.dedup cmpF xs) ∧ w.grownBy w' (some g) := by
  have hlt2 : decide (xs.length < 2) = false := decide_eq_false (by omega)
  have hlt2' : decide ((xs.length : Int) < 2) = false := decide_eq_false (by omega)
  have HN := Aside0.mk hN
  clear hN
  have HX := Aside0.mk hlab
  clear hlab
  go_enter Try.func73, Try.ntmps73
  go_wp2
  go_loopw [5] (fun kv wr => ∃ k : Nat, k + 1 ≤ xs.length ∧ kv = .int .i64 (k + 1 : Nat) ∧ Cmps.dedup cmpF (xs.take (k + 1)) = xs.take (k + 1) ∧ Kd.N k33 33 wr base ok (.slice (some ⟨g, 0, none⟩) xs.length cap) xs ∧ w.grownBy wr (some g)) (fun kv _ => xs.length - (intOf kv).toNat)
  case atStart =>
    refine ⟨0, by omega, rfl, ?_, HN.out, ⟨rfl, rfl, rfl, Nat.le_refl _, fun _ _ _ => rfl⟩⟩
    cases xs with
    | nil => simp at h2
    | cons y r => simp [Cmps.dedup, Cmps.keepFrom]
  case round =>
    obtain ⟨k, hk, rfl, hd, hN, hg⟩ := hrel
    have HD := Aside0.mk hd
    have HR := Aside0.mk hN
    have HG := Aside0.mk hg
    clear hd hN hg
    by_cases hlt : k + 1 < xs.length
    · obtain ⟨A0, c0, a0, a1, a2, a3, a4, al, af⟩ := find_at HR.out k (by omega)
      obtain ⟨A1, c1, b0, b1, b2, b3, b4, bl, bf⟩ := find_at HR.out (k + 1) hlt
      have i1 : (0 : Int) ≤ (k : Int) + 1 := by omega
      have i2 : (k : Int) + 1 < (xs.length : Int) := by omega
      have i3 : (0 : Int) ≤ (k : Int) := by omega
      have i4 : (k : Int) < (xs.length : Int) := by omega
      have i5 : ((k : Int) + 1).toNat = k + 1 := by omega
      have i6 : IntKind.i64.wrap ((k : Int) + 1 - 1) = (k : Int) := by rw [IntWalk.i64_in _ (by omega)]; omega
      have i7 : IntKind.i64.wrap (k : Int) = (k : Int) := IntWalk.i64_in _ (by omega)
      have i8 : wrap64 (k : Int) = (k : Int) := wrap_small _ (by omega) (by omega)
      have i9 : wrap64 ((k : Int) + 1 - 1) = (k : Int) := by rw [wrap_small _ (by omega) (by omega)]; omega
      have S0 := Aside0.mk (And.intro (Kd.F_now af) (Kd.F_now bf))
      have L0 := Aside0.mk (And.intro al (And.intro bl (HX.out xs[k + 1] (List.getElem_mem _))))
      clear af bf al bl
      obtain ⟨b, hb⟩ : ∃ b, (cmpF xs[k + 1] xs[k] == 0) = b := ⟨_, rfl⟩
      have HB := Aside0.mk hb
      clear hb
      go_wp2_with fail
      go_region_held3 (fun w' => w'.cell? ⟨g, k * 5, none⟩ = some (.slice A0 xs[k].f0.length c0) ∧ w'.cell? ⟨g, k * 5 + 1, none⟩ = some (.int .i64 xs[k].f1) ∧ w'.cell? ⟨g, k * 5 + 2, none⟩ = some (.int .i64 xs[k].f2) ∧ w'.cell? ⟨g, k * 5 + 3, none⟩ = some (.bool xs[k].f3) ∧ w'.cell? ⟨g, k * 5 + 4, none⟩ = some (.int .i64 xs[k].f4) ∧ w'.cell? ⟨g, (k + 1) * 5, none⟩ = some (.slice A1 xs[k + 1].f0.length c1) ∧ w'.cell? ⟨g, (k + 1) * 5 + 1, none⟩ = some (.int .i64 xs[k + 1].f1) ∧ w'.cell? ⟨g, (k + 1) * 5 + 2, none⟩ = some (.int .i64 xs[k + 1].f2) ∧ w'.cell? ⟨g, (k + 1) * 5 + 3, none⟩ = some (.bool xs[k + 1].f3) ∧ w'.cell? ⟨g, (k + 1) * 5 + 4, none⟩ = some (.int .i64 xs[k + 1].f4))
        (first | exact ⟨a0, a1, a2, a3, a4, b0, b1, b2, b3, b4⟩ | exact ⟨cell_grows G2.out a0, cell_grows G2.out a1, cell_grows G2.out a2, cell_grows G2.out a3, cell_grows G2.out a4, cell_grows G2.out b0, cell_grows G2.out b1, cell_grows G2.out b2, cell_grows G2.out b3, cell_grows G2.out b4⟩ | go_keep)
        ((go_simp; go_at_call 74; refine (same_b b A1 c1 A0 c0 xs[k + 1] xs[k] _ HB.out (by exact S0.out.2) L0.out.2.1 (by exact S0.out.1) L0.out.1 L0.out.2.2).mono ?_; rintro e w2 ⟨rfl, hg2⟩; have G2 := Aside0.mk hg2; clear hg2))
      have R2 := Aside0.mk (Kd.N_below (Kd.N_drew HR.out) G2.out.below)
      have HG2 := Aside0.mk (World.grownBy.trans HG.out ⟨G2.out.below.os, G2.out.below.tape, G2.out.below.output, G2.out.below.size, fun k hk _ => G2.out.below.block k hk⟩)
      clear a0 a1 a2 a3 a4 b0 b1 b2 b3 b4 i6 i7 i8 i9
      cases b with
      | true =>
        have HC := Aside0.mk (beq_iff_eq.1 HB.out)
        have hcap : xs.length ≤ cap := (Kd.N_reads' HR.out).2.1
        have hne : ¬ cap = k + 1 := by omega
        have hle1 : ((k : Int) + 1) ≤ (xs.length : Int) := by omega
        go_wp2
        obtain ⟨wo, hwo⟩ : ∃ wo : World, wo = w2 := ⟨_, rfl⟩
        rw [← hwo] at R2 HG2 ⊢
        have HWO := Aside0.mk hwo
        clear hwo
        go_loopw [5, 7] (fun pv qv wr => ∃ (p q : Nat) (ys : List S33), 1 ≤ q ∧ k + 1 + q ≤ xs.length ∧ pv = .int .i64 p ∧ qv = .int .i64 q ∧ p = (Cmps.dedup cmpF (xs.take (k + 1 + q))).length ∧ p ≤ k + q ∧ ys.length = xs.length ∧ ys.take p = Cmps.dedup cmpF (xs.take (k + 1 + q)) ∧ ys.drop p = xs.drop p ∧ Kd.N k33 33 wr base ok (.slice (some ⟨g, 0, none⟩) xs.length cap) ys ∧ w.grownBy wr (some g)) (fun _ qv _ => xs.length - (intOf qv).toNat)
        case atStart =>
          have e1 : Cmps.dedup cmpF (xs.take (k + 1 + 1)) = xs.take (k + 1) := by rw [Cmps.dedup_snoc xs k (by omega), if_pos HC.out, HD.out]
          refine ⟨k + 1, 1, xs, by omega, by omega, by go_num, rfl, ?_, by omega, rfl, ?_, rfl, R2.out, HG2.out⟩
          · rw [e1, List.length_take]; omega
          · rw [e1]
        case round =>
          obtain ⟨p, q, ys, hq1, hq2, rfl, rfl, hp, hp2, hys, hyt, hyd, hNy, hgy⟩ := hrel
          have NY := Aside0.mk hNy
          have GY := Aside0.mk hgy
          have PP := Aside0.mk (And.intro hp (And.intro hys (And.intro hyt hyd)))
          clear hNy hgy hp hys hyt hyd
          by_cases hlt2 : k + 1 + q < xs.length
          · obtain ⟨m, rfl⟩ : ∃ m, q = m + 1 := ⟨q - 1, by omega⟩
            obtain ⟨A2, c2, d0, d1, d2, d3, d4, dl, df⟩ := find_in NY.out PP.out.2.1 PP.out.2.2.2 (k + 1) m (by omega) (by omega)
            obtain ⟨A3, c3, f0, f1, f2, f3, f4, fl, ff⟩ := find_in NY.out PP.out.2.1 PP.out.2.2.2 (k + 1) (m + 1) (by omega) (by omega)
            have j1 : (0 : Int) ≤ (m : Int) + 1 := by omega
            have j2 : (m : Int) + 1 < ((xs.length - (k + 1) : Nat) : Int) := by omega
            have j3 : (0 : Int) ≤ (m : Int) := by omega
            have j4 : (m : Int) < ((xs.length - (k + 1) : Nat) : Int) := by omega
            have j5 : ((m : Int) + 1).toNat = m + 1 := by omega
            have j6 : IntKind.i64.wrap ((m : Int) + 1 - 1) = (m : Int) := by rw [IntWalk.i64_in _ (by omega)]; omega
            have j7 : IntKind.i64.wrap (m : Int) = (m : Int) := IntWalk.i64_in _ (by omega)
            have j8 : wrap64 (m : Int) = (m : Int) := wrap_small _ (by omega) (by omega)
            have S1 := Aside0.mk (And.intro (Kd.F_now df) ff)
            have L1 := Aside0.mk (And.intro dl (And.intro fl (HX.out xs[k + 1 + (m + 1)] (List.getElem_mem _))))
            clear df ff dl fl
            obtain ⟨b, hb⟩ : ∃ b, (cmpF xs[k + 1 + (m + 1)] xs[k + 1 + m] == 0) = b := ⟨_, rfl⟩
            have HB2 := Aside0.mk hb
            clear hb
            go_wp2_with fail
            go_region_held3 (fun w' => w'.cell? ⟨g, (k + 1) * 5 + m * 5, none⟩ = some (.slice A2 xs[k + 1 + m].f0.length c2) ∧ w'.cell? ⟨g, (k + 1) * 5 + m * 5 + 1, none⟩ = some (.int .i64 xs[k + 1 + m].f1) ∧ w'.cell? ⟨g, (k + 1) * 5 + m * 5 + 2, none⟩ = some (.int .i64 xs[k + 1 + m].f2) ∧ w'.cell? ⟨g, (k + 1) * 5 + m * 5 + 3, none⟩ = some (.bool xs[k + 1 + m].f3) ∧ w'.cell? ⟨g, (k + 1) * 5 + m * 5 + 4, none⟩ = some (.int .i64 xs[k + 1 + m].f4) ∧ w'.cell? ⟨g, (k + 1) * 5 + (m + 1) * 5, none⟩ = some (.slice A3 xs[k + 1 + (m + 1)].f0.length c3) ∧ w'.cell? ⟨g, (k + 1) * 5 + (m + 1) * 5 + 1, none⟩ = some (.int .i64 xs[k + 1 + (m + 1)].f1) ∧ w'.cell? ⟨g, (k + 1) * 5 + (m + 1) * 5 + 2, none⟩ = some (.int .i64 xs[k + 1 + (m + 1)].f2) ∧ w'.cell? ⟨g, (k + 1) * 5 + (m + 1) * 5 + 3, none⟩ = some (.bool xs[k + 1 + (m + 1)].f3) ∧ w'.cell? ⟨g, (k + 1) * 5 + (m + 1) * 5 + 4, none⟩ = some (.int .i64 xs[k + 1 + (m + 1)].f4))
              (first | exact ⟨d0, d1, d2, d3, d4, f0, f1, f2, f3, f4⟩ | exact ⟨cell_grows G3.out d0, cell_grows G3.out d1, cell_grows G3.out d2, cell_grows G3.out d3, cell_grows G3.out d4, cell_grows G3.out f0, cell_grows G3.out f1, cell_grows G3.out f2, cell_grows G3.out f3, cell_grows G3.out f4⟩ | go_keep)
              ((go_simp; go_at_call 74; refine (same_b b A3 c3 A2 c2 xs[k + 1 + (m + 1)] xs[k + 1 + m] _ HB2.out (by exact (Kd.F_now S1.out.2)) L1.out.2.1 (by exact S1.out.1) L1.out.1 L1.out.2.2).mono ?_; rintro e w3 ⟨rfl, hg3⟩; have G3 := Aside0.mk hg3; clear hg3))
            have N3 := Aside0.mk (Kd.N_below (Kd.N_drew NY.out) G3.out.below)
            have GY3 := Aside0.mk (World.grownBy.trans GY.out ⟨G3.out.below.os, G3.out.below.tape, G3.out.below.output, G3.out.below.size, fun k hk _ => G3.out.below.block k hk⟩)
            have F3 := Aside0.mk (Kd.F_below (Kd.F_drew S1.out.2) G3.out.below)
            clear d0 d1 d2 d3 d4 f0 f1 f2 f3 f4 j5 j6 j7 j8
            cases b with
            | true =>
              have HC2 := Aside0.mk (beq_iff_eq.1 HB2.out)
              have hsn := Cmps.dedup_same (c := cmpF) xs (k + 1) m (by omega) HC2.out
              have HSN := Aside0.mk hsn
              clear hsn
              go_wp2
              go_roundw
              case rel => exact ⟨_, m + 1 + 1, ys, by omega, by omega, rfl, by go_num, by rw [HSN.out]; exact PP.out.1, by omega, PP.out.2.1, by rw [HSN.out]; exact PP.out.2.2.1, PP.out.2.2.2, N3.out, GY3.out⟩
              case measure => simp [intOf]; omega
            | false =>
              have HC2 := Aside0.mk (beq_eq_false_iff_ne.1 HB2.out)
              have hsn := Cmps.dedup_more (c := cmpF) xs (k + 1) m (by omega) HC2.out
              have HSN := Aside0.mk hsn
              clear hsn
              obtain ⟨Ap, cp, e0, e1, e2, e3, e4, _, _⟩ := find_at N3.out p (by rw [PP.out.2.1]; omega)
              have ez := fun i => N_frozen N3.out i
              go_wp2
              go_roundw
              case rel =>
                have hst := put_find N3.out p (by rw [PP.out.2.1]; omega) xs[k + 1 + (m + 1)] A3 c3 L1.out.2.1 F3.out
                refine ⟨p + 1, m + 1 + 1, ys.set p xs[k + 1 + (m + 1)], by omega, by omega, by go_num, by go_num, ?_, by omega, by rw [List.length_set]; exact PP.out.2.1, ?_, ?_, hst.1, World.grownBy.trans GY3.out hst.2⟩
                · rw [HSN.out, List.length_append, ← PP.out.1]; rfl
                · have h1 : p < ys.length := by have := PP.out.2.1; omega
                  rw [HSN.out, ← PP.out.2.2.1, List.take_succ_eq_append_getElem (by rw [List.length_set]; exact h1), List.take_set_of_le (Nat.le_refl _), List.getElem_set_self]
                · rw [List.drop_set_of_lt (by omega)]
                  have := congrArg (List.drop 1) PP.out.2.2.2
                  rwa [List.drop_drop, List.drop_drop] at this
              case measure => simp [intOf]; omega
          · have hq3 : k + 1 + q = xs.length := by omega
            have hpn : p < xs.length := by omega
            have lz : ∀ m, (Builtin.zeroCells (Value.agg #[.slice none 0 0, .int .i64 0, .int .i64 0, .bool false, .int .i64 0]).cells m).toList.length = m * 5 := by
              intro m; rw [Array.length_toList]; unfold Builtin.zeroCells; rw [Array.size_map, Array.size_range]; rfl
            have hcl : ∀ ty, (Builtin.clear_ #[35] ty #[.slice (some ⟨g, p * 5, none⟩) (xs.length - p) (cap - p)]).run Try.prog wr = .ok (.tuple #[]) (wr.setCells g (p * 5) (Builtin.zeroCells (Value.agg #[.slice none 0 0, .int .i64 0, .int .i64 0, .bool false, .int .i64 0]).cells (xs.length - p)).toList) := fun ty =>
              run_clear_row wr 35 33 ty _ Try.underlying35 Try.zeroValue33 g (p * 5) (xs.length - p) (cap - p) (one_zeros _) (by omega) (fun j hj => by rw [lz] at hj; exact N_some NY.out (p * 5 + j) (by omega)) (fun j hj => N_frozen NY.out _)
            clear lz
            have HQ3 := Aside0.mk hq3
            clear hq3
            have e9 : decide (((q : Nat) : Int) < ((xs.length - (k + 1) : Nat) : Int)) = false := decide_eq_false (by omega)
            have ne9 : ¬ cap = p := by omega
            go_wp2
            go_ret
            have h1 := N_beyonds (Builtin.zeroCells (Value.agg #[.slice none 0 0, .int .i64 0, .int .i64 0, .bool false, .int .i64 0]).cells (xs.length - p)).toList (p * 5) wr (Kd.N_take NY.out (m := p) (by rw [PP.out.2.1]; omega)) (Nat.le_refl _)
            refine ⟨_, rfl, ?_, World.grownBy.trans GY.out h1.2⟩
            have h2 := PP.out.2.2.1
            rw [HQ3.out, List.take_length] at h2
            rw [← h2]
            exact h1.1
      | false =>
        have HC := Aside0.mk (beq_eq_false_iff_ne.1 HB.out)
        go_wp2
        go_roundw
        case rel =>
          refine ⟨k + 1, by omega, by go_num, ?_, R2.out, HG2.out⟩
          rw [Cmps.dedup_snoc xs k (by omega), if_neg HC.out, HD.out, List.take_succ_eq_append_getElem (by omega : k + 1 < xs.length)]
        case measure => simp [intOf]; omega
    · have hk1 : k + 1 = xs.length := by omega
      have HK := Aside0.mk hk1
      clear hk1
      have e : decide (((k + 1 : Nat) : Int) < (xs.length : Int)) = false := decide_eq_false (by omega)
      have e2 : decide ((k : Int) + 1 < (xs.length : Int)) = false := decide_eq_false (by omega)
      go_wp2
      go_ret
      refine ⟨_, rfl, ?_, HG.out⟩
      have := HD.out
      rw [HK.out, List.take_length] at this
      rw [this]
      exact HR.out
end Go.Proofs.Ytgfmplhpoblleaa.RankW
