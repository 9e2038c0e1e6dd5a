/- FailL. -/
import Derived.Test.YtgfmplhpoblleaaMB5
import Derived.BigRegionIn
section
/- fail: visit. -/
namespace Go.Proofs.Ytgfmplhpoblleaa.FailW
open Go.RowKit Go.Shelf Go.Lib Go.Proofs Go.Proofs.YtgfmplhpoblleaaW.PrintWords Go.Proofs.YtgfmplhpoblleaaW.PrintLast Go.Proofs.YtgfmplhpoblleaaW.PrintMore Go.Proofs.Ytgfmplhpoblleaa.PRank Go.Proofs.Ytgfmplhpoblleaa.PFB Go.Proofs.Ytgfmplhpoblleaa.RankW Go.Proofs.Ytgfmplhpoblleaa.SortOwn Go.Proofs.Ytgfmplhpoblleaa
open Go.Proofs.Ytgfmplhpoblleaa.Cmps hiding dedup
set_option linter.unusedVariables false
set_option linter.unusedSimpArgs false
attribute [local go_sem] Oper.semAt_some

theorem visitE_open {x : List S106} {K : Nat} {n : Int} {s s' : St} {e : S122} (h : visitE x K n s e = some s') : ∃ F : Int, (if n = 0 then some (atI s.fl e.f1) else if isNode s.fl (atI s.fl n) = true then (goF x s.fl e.f0 K (atI s.fl n) 1).map (·.1) else some 0) = some F ∧
    isNode s.fl n = true ∧ isNode s.fl e.f1 = true ∧ isNode s.fl F = true ∧ s' = ⟨s.fl.set e.f1.toNat F, s.ol.set e.f1.toNat (if (nodeOf x e.f1).f4.length > 0 then e.f1 else atI s.ol F), s.od ++ [e.f1]⟩ := by
  unfold visitE at h
  simp only at h
  cases hf : (if n = 0 then some (atI s.fl e.f1) else if isNode s.fl (atI s.fl n) = true then (goF x s.fl e.f0 K (atI s.fl n) 1).map (·.1) else some 0) with
  | none => rw [hf] at h; cases h
  | some F =>
    rw [hf, Option.bind_some] at h
    by_cases hc : isNode s.fl n = true ∧ isNode s.fl e.f1 = true ∧ isNode s.fl F = true
    · rw [if_pos hc] at h
      exact ⟨F, rfl, hc.1, hc.2.1, hc.2.2, (Option.some.inj h).symm⟩
    · rw [if_neg hc] at h; cases h
theorem cell_set_far {w : World} {a p : Addr} {u v : Value} (h : w.cell? a = some v) (hne : a.block ≠ p.block) : (w.setCell p u).cell? a = some v := (World.cell?_of_block (Below.heap_setCell w p u a.block hne)).trans h
theorem below_between {b : Nat} {w0 A B : World} (hA : Go.RowKit.Below b w0 A) (hB : Go.RowKit.Below b w0 B) (hs : A.heap.size ≤ B.heap.size) : Go.RowKit.Below b A B :=
  ⟨hB.os.trans hA.os.symm, hB.tape.trans hA.tape.symm, hB.output.trans hA.output.symm, hs, fun k hk => (hB.block k hk).trans (hA.block k hk).symm⟩
theorem keepsO {A B : World} (h : Go.RowKit.Below A.heap.size A B) : KeepsOthers A B := KeepsOthers.of_grownBy (grown_of_below h none) (fun j o e => by cases e)
theorem set_at (l : List Int) (q : Nat) : l.set q (atI l q) = l := by
  apply List.ext_getElem?
  intro i
  by_cases hi : q = i
  · subst hi
    rcases Nat.lt_or_ge q l.length with h | h
    · rw [List.getElem?_set_self h]
      unfold atI; simp [h]
    · rw [List.getElem?_eq_none (by simpa using h), List.getElem?_eq_none h]
  · rw [List.getElem?_set_ne hi]

set_option maxHeartbeats 8000000 in
set_option maxRecDepth 100000 in
theorem visit_calls (w0 w : World) (p gf go : Nat) (t : Addr) (x : List S106) (ts : List (List Int)) (s : St) (vod : Value) (n K0 : Nat) (hL : Lk w0 w p gf go x.length t x s vod) (hS : SInv x ts s) (hSp : Sp x ts) (hG : Good x) (hn : n < x.length)
    (hK : ∀ u ∈ ts, u.length < K0) (hK2 : K0 ≤ 1000000000) (hod : s.od.length + (nodeOf x n).f3.length ≤ 10000000000) :
    Calls Try.prog 79 #[.pointer (some ⟨p, 0, none⟩), .int .i64 n] w fun e w' => e = .returned (.tuple #[]) ∧ ∃ (s' : St) (vod' : Value), visitL x K0 n s (nodeOf x n).f3 = some s' ∧ SInv x ts s' ∧ Lk w0 w' p gf go x.length t x s' vod' := by
  have HI := Aside0.mk (And.intro hL (And.intro hS (And.intro hSp (And.intro hG (And.intro hK (And.intro hK2 hod))))))
  have c0 : ((w.alloc (.cells #[.pointer (some ⟨p, 0, none⟩)] 52)).alloc (.cells #[.int .i64 n] 3)).cell? ⟨p, 0, none⟩ = some (.pointer (some t)) := (hL.grows (((Grows.refl w).alloc _).alloc _)).c0
  clear hL hS hSp hG hK hK2 hod
  refine (callsIn_wide (n := 4)).1 ?_
  refine callsIn_of_wp_marks Try.func79 rfl trivial ?_ rfl
  simp only [Try.ntmps79, List.size_toArray, List.length_cons, List.length_nil, Nat.reduceAdd, Nat.reduceSub, Array.replicate_succ, Array.replicate_zero, List.push_toArray, List.append_toArray, List.nil_append, List.cons_append]
  refine wpIn_wide.2 ?_
  go_wp2
  obtain ⟨W0, hW0⟩ : ∃ W0, W0 = (w.alloc (.cells #[.pointer (some ⟨p, 0, none⟩)] 52)).alloc (.cells #[.int .i64 n] 3) := ⟨_, rfl⟩
  have q0 : W0.cell? ⟨w.heap.size, 0, none⟩ = some (.pointer (some ⟨p, 0, none⟩)) := by rw [hW0]; simp
  have q1 : W0.cell? ⟨w.heap.size + 1, 0, none⟩ = some (.int .i64 n) := by
    have := heap_alloc_new (w.alloc (.cells #[.pointer (some ⟨p, 0, none⟩)] 52)) (.cells #[.int .i64 n] 3)
    rw [World.size_alloc] at this
    rw [hW0, blk_cell this]; rfl
  rw [← hW0] at c0
  rw [← hW0]
  have HW0 := Aside0.mk hW0
  clear hW0
  go_region_held3 (fun w' => w'.cell? ⟨w.heap.size, 0, none⟩ = some (.pointer (some ⟨p, 0, none⟩)) ∧ w'.cell? ⟨w.heap.size + 1, 0, none⟩ = some (.int .i64 n) ∧ w'.cell? ⟨p, 0, none⟩ = some (.pointer (some t)))
    (first | exact ⟨q0, q1, c0⟩ | exact ⟨cell_grows ((((Grows.refl _).alloc _).alloc _).drewN 1) q0, cell_grows ((((Grows.refl _).alloc _).alloc _).drewN 1) q1, cell_grows ((((Grows.refl _).alloc _).alloc _).drewN 1) c0⟩ | go_keep)
    ((go_simp; go_at_call 102; refine (edges_calls _ _ _).mono ?_; rintro e w2 ⟨rfl, rfl⟩))
  go_wp2
  refine (wpIn_wide (n := 4)).1 ?_
  obtain ⟨W1, hW1⟩ : ∃ W1, W1 = ((W0.alloc (.cells #[.pointer (some t)] 48)).alloc (.cells #[.int .i64 n] 3)).drew := ⟨_, rfl⟩
  have g1 : Grows W0 W1 := by rw [hW1]; exact (((Grows.refl _).alloc _).alloc _).drewN 1
  have g0 : Grows w W1 := Grows.trans (by rw [HW0.out]; exact ((Grows.refl w).alloc _).alloc _) g1
  have hsz0' : W0.heap.size = w.heap.size + 2 := by rw [HW0.out]; simp
  have hsz : W1.heap.size = W0.heap.size + 2 := by rw [hW1]; simp [World.drew]
  have HS := Aside0.mk (And.intro hsz0' hsz)
  clear hsz hsz0'
  have k0 : W1.cell? ⟨w.heap.size, 0, none⟩ = some (.pointer (some ⟨p, 0, none⟩)) := cell_grows g1 q0
  have k1 : W1.cell? ⟨w.heap.size + 1, 0, none⟩ = some (.int .i64 n) := cell_grows g1 q1
  have k2 : W1.cell? ⟨W0.heap.size, 0, none⟩ = some (.pointer (some t)) := by
    have := heap_alloc_new W0 (.cells #[.pointer (some t)] 48)
    have h2 := (Below.heap_alloc (W0.alloc (.cells #[.pointer (some t)] 48)) (.cells #[.int .i64 n] 3) _ (by simp)).trans this
    rw [hW1]
    exact (blk_cell (w := (((W0.alloc (.cells #[.pointer (some t)] 48)).alloc (.cells #[.int .i64 n] 3)).drew)) h2 0).trans rfl
  have k3 : W1.cell? ⟨W0.heap.size + 1, 0, none⟩ = some (.int .i64 n) := by
    have := heap_alloc_new (W0.alloc (.cells #[.pointer (some t)] 48)) (.cells #[.int .i64 n] 3)
    rw [World.size_alloc] at this
    rw [hW1]
    exact (blk_cell (w := (((W0.alloc (.cells #[.pointer (some t)] 48)).alloc (.cells #[.int .i64 n] 3)).drew)) this 0).trans rfl
  rw [← hW1]
  have hL1 := HI.out.1.grows g0
  have hbs : w0.heap.size ≤ W1.heap.size := hL1.bw.size
  have hpw : p < w.heap.size := blk_lt HI.out.1.blk
  have HW1 := Aside0.mk hW1
  have HG := Aside0.mk (And.intro g0 g1)
  clear hW1 g0 g1 q0 q1 c0
  refine wpIn_rangeFunc_ownG (n := 4) rfl (by omega) (gf := 121) (lb := #[.pointer (some ⟨W0.heap.size, 0, none⟩), .pointer (some ⟨W0.heap.size + 1, 0, none⟩)]) rfl trivial (enters_of Try.func121 (by kernel_rfl) rfl)
    (edges_stops W0.heap.size (W0.heap.size + 1) t x n w0 W1 hL1.tr HI.out.2.2.2.1 hL1.bw k2 k3) belowK_t (belowK_b hbs) (Below.refl _ _) (fun _ => rfl)
    (fun pre W => ∃ (s1 : St) (vod1 : Value), visitL x K0 n s (pre.map (·.1)) = some s1 ∧ SInv x ts s1 ∧ s1.od.length = s.od.length + pre.length ∧ Lk w0 W p gf go x.length t x s1 vod1 ∧ W.cell? ⟨w.heap.size, 0, none⟩ = some (.pointer (some ⟨p, 0, none⟩)) ∧ W.cell? ⟨w.heap.size + 1, 0, none⟩ = some (.int .i64 n) ∧ W1.heap.size ≤ W.heap.size ∧ (∀ k, vod1.ownBlock = some k → k < w.heap.size ∨ W1.heap.size ≤ k))
    (fun _ _ _ => False) ?own (fun _ _ _ _ _ hs _ _ => hs)
    ⟨s, vod, rfl, HI.out.2.1, rfl, hL1, k0, k1, Nat.le_refl _, fun k hk => .inl (own_lt HI.out.1.od k hk)⟩
    (fun e => { tmps := #[.pointer (some ⟨p, 0, none⟩), .int .i64 n, .pointer (some ⟨w.heap.size, 0, none⟩), .pointer (some ⟨w.heap.size + 1, 0, none⟩), .int .i64 e.1.f0, .int .i64 e.1.f1, .pointer (some ⟨p, 0, none⟩), .pointer (some ⟨p, 0, none⟩), .pointer (some ⟨p, 0, none⟩), .pointer (some t), .int .i64 n, .func (.func 121) #[] #[.pointer (some ⟨W0.heap.size, 0, none⟩), .pointer (some ⟨W0.heap.size + 1, 0, none⟩)], .int .i64 e.1.f0, .int .i64 e.1.f1, undef, undef, undef, undef, undef, undef, undef, undef, undef, undef, undef, undef, undef, undef, undef, undef, undef, undef, undef, undef, undef, undef, undef, undef, undef, undef, undef, undef, undef, undef, undef, undef, undef, undef, undef, undef, undef, undef, undef, undef, undef, undef, undef, undef, undef, undef, undef, undef, undef, undef, undef, undef, undef, undef, undef, undef, undef, undef, undef, undef, undef, undef, undef, undef, undef], defers := [] }) ?assign ?body ?done ?stop
  case own =>
    rintro pre A B row ⟨s1, vod1, h1, h2, h3, h4, h5, h6, h7, h8⟩ hg hr
    have hsz := HS.out
    have far : ∀ b, b < W1.heap.size → some b ≠ row := fun b hb e => by have := (hr b e.symm).1; omega
    refine ⟨s1, vod1, h1, h2, h3, h4.own hg (fun r e => ⟨Nat.le_trans hbs (hr r e).1, (hr r e).2⟩), ?_, ?_, Nat.le_trans h7 hg.size, h8⟩
    · exact (hg.cell_far _ (show w.heap.size < A.heap.size by omega) (far w.heap.size (by omega))).trans h5
    · exact (hg.cell_far _ (show w.heap.size + 1 < A.heap.size by omega) (far (w.heap.size + 1) (by omega))).trans h6
  case assign =>
    intro l e W K hK
    unfold encE
    gi_wp2
    exact hK
  case stop =>
    rintro D c pre W _ _ h _
    exact h.elim
  case done =>
    rintro D ys W hD rfl ⟨s1, vod1, h1, h2, h3, h4, h5, h6, h7, h8⟩ hK
    gi_wp2
    refine ⟨by simp, .inl ⟨_, _, rfl, run_takeDeferred hK, ?_⟩⟩
    refine ⟨_, results_none rfl _ _ _, rfl, s1, vod1, ?_, h2, h4.own (grownBy_putObj' W D (.deferred none)) (fun r e => by cases e; exact ⟨Nat.le_trans hbs hD, _, hK, rfl⟩)⟩
    rw [List.attach_map_subtype_val] at h1
    exact h1
  case body =>
    rintro l pre e W ⟨s1, vod1, h1, h2, h3, h4, h5, h6, h7, h8⟩ hlen
    have hsz := HS.out
    obtain ⟨s2, hv2, hS2, q, hq, hqx, hod2⟩ := visitE_safe HI.out.2.2.1 HI.out.2.2.2.2.1 h2 hn e.2
    have hqn : q ≠ n := by
      have key : ∀ y, nodeOf x n = y → e.1 ∈ y.f3 := fun y hy => by rw [← hy]; exact e.2
      have he := key _ (nodeOf_nat hn)
      obtain ⟨q', e1, u, hu, hq'⟩ := HI.out.2.2.1.edge _ _ (List.getElem?_eq_getElem hn) e.1 he
      have : q' = q := by omega
      subst this
      intro e2
      rw [e2, hu] at hq'
      have := congrArg List.length (Option.some.inj hq')
      simp at this
    obtain ⟨F, hF, n1, n2, n3, hs2⟩ := visitE_open hv2
    rw [hq] at hF n2 hs2
    rw [Int.toNat_natCast] at hs2
    rw [isNode_iff] at n3
    have hFl := h4.fll
    obtain ⟨f, rfl⟩ : ∃ f : Nat, F = f := ⟨F.toNat, by omega⟩
    have hfx : f < x.length := by omega
    have hgfw : gf < w.heap.size := by obtain ⟨c_, b_, _⟩ := own_blk HI.out.1.fl; exact blk_lt b_
    have hgow : go < w.heap.size := by obtain ⟨c_, b_, _⟩ := own_blk HI.out.1.ol; exact blk_lt b_
    have HB := Aside0.mk (And.intro h1 (And.intro h2 (And.intro h3 (And.intro h4 (And.intro h7 (And.intro h8 (And.intro hv2 (And.intro hS2 (And.intro hod2 (And.intro hs2 (And.intro hlen (And.intro n1 n2))))))))))))
    have HN := Aside0.mk (And.intro hqn (And.intro hgfw (And.intro hgow hfx)))
    have iq : (q : Int) < (x.length : Int) := by omega
    have inn : (n : Int) < (x.length : Int) := by omega
    have if_ : (f : Int) < (x.length : Int) := by omega
    have e1 := h4.c1
    clear h1 h2 h3 h7 h8 hv2 hS2 hod2 hs2 hlen n1 n2 n3 hsz hqn hgfw hgow
    by_cases hn0 : (n : Int) = 0
    · rw [if_pos hn0] at hF
      have hF' := Option.some.inj hF
      have L5' : Lk w0 W p gf go x.length t x ⟨s1.fl.set q f, s1.ol, s1.od⟩ vod1 := by
        have : s1.fl.set q (f : Int) = s1.fl := by rw [← hF']; exact set_at _ _
        rw [this]; exact h4
      have nb : ((n : Int) == 0) = true := by simp; omega
      have HF := Aside0.mk hF'
      have H45 := Aside0.mk L5'
      clear hF hF' h4 L5'
      gi_wp2
      have L5 := H45.out
      have b05 := h5
      have b15 := h6
      have KO5 := KeepsOthers.refl W
      have m1 := L5.flAt q hqx
      have m2 := L5.olAt f hfx
      have m3 := L5.olAt q hqx
      have m4 := L5.olz q
      have m5 := L5.c1
      have m6 := L5.c2
      rw [show atI (s1.fl.set q (f : Int)) q = (f : Int) from atI_set_self (by rw [hFl]; exact hqx)] at m1
      have L6 := L5.setOl q (atI s1.ol f)
      have HL6 := Aside0.mk (And.intro L5 L6)
      have hv6 : atI (s1.ol.set q (atI s1.ol f)) f = atI s1.ol f := by
        by_cases hqf : q = f
        · rw [← hqf]; exact atI_set_self (by rw [HB.out.2.2.2.1.oll]; exact hqx)
        · exact atI_set_ne hqf
      have m7 := L6.flAt q hqx
      rw [show atI (s1.fl.set q (f : Int)) q = (f : Int) from atI_set_self (by rw [hFl]; exact hqx)] at m7
      have m8 := L6.olAt f hfx
      rw [hv6] at m8
      have S6 := Aside0.mk (And.intro (cell_set_far (p := ⟨go, q, none⟩) (u := .int .i64 (atI s1.ol f)) b05 (show w.heap.size ≠ go by have := HN.out.2.2.1; omega)) (And.intro L6.c2 (And.intro L6.c1 (And.intro m7 m8))))
      clear L5 L6 hv6 m7 m8
      refine wpIn_region_held (S := fun w' => w'.cell? ⟨w.heap.size, 0, none⟩ = some (.pointer (some ⟨p, 0, none⟩)) ∧ w'.cell? ⟨p, 2, none⟩ = some (.slice (some ⟨go, 0, none⟩) x.length x.length) ∧ w'.cell? ⟨p, 1, none⟩ = some (.slice (some ⟨gf, 0, none⟩) x.length x.length) ∧ w'.cell? ⟨gf, q, none⟩ = some (.int .i64 f) ∧ w'.cell? ⟨go, f, none⟩ = some (.int .i64 (atI s1.ol f))) (by kernel_rfl) (by kernel_rfl) (by rintro ⟨a_, w_, h_⟩; exact h_) ?s0r6a (fun hHeld => ?b0r6a)
      case s0r6a => exact ⟨b05, m6, m5, m1, m2⟩
      refine wpAnyH_take (i := 0) (oi := { dst := some 35, op := Go.Op.load 52 (Go.Operand.tmp 2), type := 52, pos := "fail.go:42", after := #[], guard := none }) (v := ?vr6a_1) rfl (by kernel_rfl) (by kernel_rfl) (by kernel_rfl) (fun _ _ _ h => h) (Or.inl ⟨by rfl, ?hyr6a_1⟩) (by assumption) ?rer6a_1
      case hyr6a_1 => (intro w hSw; (try dsimp only at hSw); go_simp; try with_reducible rfl)
      try simp only [Act.put, List.setIfInBounds_toArray, List.set_cons_zero, List.set_cons_succ]
      refine wpAnyH_take (i := 1) (oi := { dst := some 36, op := Go.Op.nilCheck (Go.Operand.tmp 35), type := 0, pos := "fail.go:42", after := #[{ on := 0, ground := Go.Ground.data }], guard := none }) (v := ?vr6a_2) rfl (by kernel_rfl) (by kernel_rfl) (by kernel_rfl) (fun _ _ _ h => h) (Or.inl ⟨by rfl, ?hyr6a_2⟩) (by assumption) ?rer6a_2
      case hyr6a_2 => (intro w hSw; (try dsimp only at hSw); go_simp; try with_reducible rfl)
      try simp only [Act.put, List.setIfInBounds_toArray, List.set_cons_zero, List.set_cons_succ]
      refine wpAnyH_take (i := 2) (oi := { dst := some 37, op := Go.Op.fieldAddr 99 (Go.Operand.tmp 36) 2, type := 0, pos := "fail.go:42", after := #[{ on := 1, ground := Go.Ground.data }], guard := none }) (v := ?vr6a_3) rfl (by kernel_rfl) (by kernel_rfl) (by kernel_rfl) (fun _ _ _ h => h) (Or.inl ⟨by rfl, ?hyr6a_3⟩) (by assumption) ?rer6a_3
      case hyr6a_3 => (intro w hSw; (try dsimp only at hSw); go_simp; try with_reducible rfl)
      try simp only [Act.put, List.setIfInBounds_toArray, List.set_cons_zero, List.set_cons_succ]
      refine wpAnyH_take (i := 3) (oi := { dst := some 38, op := Go.Op.load 23 (Go.Operand.tmp 37), type := 23, pos := "fail.go:42", after := #[{ on := 2, ground := Go.Ground.data }], guard := none }) (v := ?vr6a_4) rfl (by kernel_rfl) (by kernel_rfl) (by kernel_rfl) (fun _ _ _ h => h) (Or.inl ⟨by rfl, ?hyr6a_4⟩) (by assumption) ?rer6a_4
      case hyr6a_4 => (intro w hSw; (try dsimp only at hSw); go_simp; try with_reducible rfl)
      try simp only [Act.put, List.setIfInBounds_toArray, List.set_cons_zero, List.set_cons_succ]
      refine wpAnyH_take (i := 4) (oi := { dst := some 39, op := Go.Op.move (Go.Operand.tmp 5), type := 3, pos := "fail.go:42", after := #[], guard := none }) (v := ?vr6a_5) rfl (by kernel_rfl) (by kernel_rfl) (by kernel_rfl) (fun _ _ _ h => h) (Or.inl ⟨by rfl, ?hyr6a_5⟩) (by assumption) ?rer6a_5
      case hyr6a_5 => (intro w hSw; (try dsimp only at hSw); go_simp; try with_reducible rfl)
      try simp only [Act.put, List.setIfInBounds_toArray, List.set_cons_zero, List.set_cons_succ]
      refine wpAnyH_take (i := 5) (oi := { dst := some 40, op := Go.Op.load 52 (Go.Operand.tmp 2), type := 52, pos := "fail.go:42", after := #[], guard := none }) (v := ?vr6a_6) rfl (by kernel_rfl) (by kernel_rfl) (by kernel_rfl) (fun _ _ _ h => h) (Or.inl ⟨by rfl, ?hyr6a_6⟩) (by assumption) ?rer6a_6
      case hyr6a_6 => (intro w hSw; (try dsimp only at hSw); go_simp; try with_reducible rfl)
      try simp only [Act.put, List.setIfInBounds_toArray, List.set_cons_zero, List.set_cons_succ]
      refine wpAnyH_take (i := 6) (oi := { dst := some 41, op := Go.Op.nilCheck (Go.Operand.tmp 40), type := 0, pos := "fail.go:42", after := #[{ on := 5, ground := Go.Ground.data }], guard := none }) (v := ?vr6a_7) rfl (by kernel_rfl) (by kernel_rfl) (by kernel_rfl) (fun _ _ _ h => h) (Or.inl ⟨by rfl, ?hyr6a_7⟩) (by assumption) ?rer6a_7
      case hyr6a_7 => (intro w hSw; (try dsimp only at hSw); go_simp; try with_reducible rfl)
      try simp only [Act.put, List.setIfInBounds_toArray, List.set_cons_zero, List.set_cons_succ]
      refine wpAnyH_take (i := 7) (oi := { dst := some 42, op := Go.Op.fieldAddr 99 (Go.Operand.tmp 41) 2, type := 0, pos := "fail.go:42", after := #[{ on := 6, ground := Go.Ground.data }], guard := none }) (v := ?vr6a_8) rfl (by kernel_rfl) (by kernel_rfl) (by kernel_rfl) (fun _ _ _ h => h) (Or.inl ⟨by rfl, ?hyr6a_8⟩) (by assumption) ?rer6a_8
      case hyr6a_8 => (intro w hSw; (try dsimp only at hSw); go_simp; try with_reducible rfl)
      try simp only [Act.put, List.setIfInBounds_toArray, List.set_cons_zero, List.set_cons_succ]
      refine wpAnyH_take (i := 8) (oi := { dst := some 43, op := Go.Op.load 23 (Go.Operand.tmp 42), type := 23, pos := "fail.go:42", after := #[{ on := 7, ground := Go.Ground.data }], guard := none }) (v := ?vr6a_9) rfl (by kernel_rfl) (by kernel_rfl) (by kernel_rfl) (fun _ _ _ h => h) (Or.inl ⟨by rfl, ?hyr6a_9⟩) (by assumption) ?rer6a_9
      case hyr6a_9 => (intro w hSw; (try dsimp only at hSw); go_simp; try with_reducible rfl)
      try simp only [Act.put, List.setIfInBounds_toArray, List.set_cons_zero, List.set_cons_succ]
      refine wpAnyH_take (i := 9) (oi := { dst := some 44, op := Go.Op.load 52 (Go.Operand.tmp 2), type := 52, pos := "fail.go:42", after := #[], guard := none }) (v := ?vr6a_10) rfl (by kernel_rfl) (by kernel_rfl) (by kernel_rfl) (fun _ _ _ h => h) (Or.inl ⟨by rfl, ?hyr6a_10⟩) (by assumption) ?rer6a_10
      case hyr6a_10 => (intro w hSw; (try dsimp only at hSw); go_simp; try with_reducible rfl)
      try simp only [Act.put, List.setIfInBounds_toArray, List.set_cons_zero, List.set_cons_succ]
      refine wpAnyH_take (i := 10) (oi := { dst := some 45, op := Go.Op.nilCheck (Go.Operand.tmp 44), type := 0, pos := "fail.go:42", after := #[{ on := 9, ground := Go.Ground.data }], guard := none }) (v := ?vr6a_11) rfl (by kernel_rfl) (by kernel_rfl) (by kernel_rfl) (fun _ _ _ h => h) (Or.inl ⟨by rfl, ?hyr6a_11⟩) (by assumption) ?rer6a_11
      case hyr6a_11 => (intro w hSw; (try dsimp only at hSw); go_simp; try with_reducible rfl)
      try simp only [Act.put, List.setIfInBounds_toArray, List.set_cons_zero, List.set_cons_succ]
      refine wpAnyH_take (i := 11) (oi := { dst := some 46, op := Go.Op.fieldAddr 99 (Go.Operand.tmp 45) 1, type := 0, pos := "fail.go:42", after := #[{ on := 10, ground := Go.Ground.data }], guard := none }) (v := ?vr6a_12) rfl (by kernel_rfl) (by kernel_rfl) (by kernel_rfl) (fun _ _ _ h => h) (Or.inl ⟨by rfl, ?hyr6a_12⟩) (by assumption) ?rer6a_12
      case hyr6a_12 => (intro w hSw; (try dsimp only at hSw); go_simp; try with_reducible rfl)
      try simp only [Act.put, List.setIfInBounds_toArray, List.set_cons_zero, List.set_cons_succ]
      refine wpAnyH_take (i := 12) (oi := { dst := some 47, op := Go.Op.load 23 (Go.Operand.tmp 46), type := 23, pos := "fail.go:42", after := #[{ on := 11, ground := Go.Ground.data }], guard := none }) (v := ?vr6a_13) rfl (by kernel_rfl) (by kernel_rfl) (by kernel_rfl) (fun _ _ _ h => h) (Or.inl ⟨by rfl, ?hyr6a_13⟩) (by assumption) ?rer6a_13
      case hyr6a_13 => (intro w hSw; (try dsimp only at hSw); go_simp; try with_reducible rfl)
      try simp only [Act.put, List.setIfInBounds_toArray, List.set_cons_zero, List.set_cons_succ]
      refine wpAnyH_take (i := 13) (oi := { dst := some 48, op := Go.Op.move (Go.Operand.tmp 5), type := 3, pos := "fail.go:42", after := #[], guard := none }) (v := ?vr6a_14) rfl (by kernel_rfl) (by kernel_rfl) (by kernel_rfl) (fun _ _ _ h => h) (Or.inl ⟨by rfl, ?hyr6a_14⟩) (by assumption) ?rer6a_14
      case hyr6a_14 => (intro w hSw; (try dsimp only at hSw); go_simp; try with_reducible rfl)
      try simp only [Act.put, List.setIfInBounds_toArray, List.set_cons_zero, List.set_cons_succ]
      refine wpAnyH_take (i := 14) (oi := { dst := some 49, op := Go.Op.indexAddr 23 (Go.Operand.tmp 47) (Go.Operand.tmp 48), type := 0, pos := "fail.go:42", after := #[{ on := 12, ground := Go.Ground.data }, { on := 13, ground := Go.Ground.data }], guard := none }) (v := ?vr6a_15) rfl (by kernel_rfl) (by kernel_rfl) (by kernel_rfl) (fun _ _ _ h => h) (Or.inl ⟨by rfl, ?hyr6a_15⟩) (by assumption) ?rer6a_15
      case hyr6a_15 => (intro w hSw; (try dsimp only at hSw); go_simp; try with_reducible rfl)
      try simp only [Act.put, List.setIfInBounds_toArray, List.set_cons_zero, List.set_cons_succ]
      refine wpAnyH_take (i := 15) (oi := { dst := some 50, op := Go.Op.load 3 (Go.Operand.tmp 49), type := 3, pos := "fail.go:42", after := #[{ on := 14, ground := Go.Ground.data }], guard := none }) (v := ?vr6a_16) rfl (by kernel_rfl) (by kernel_rfl) (by kernel_rfl) (fun _ _ _ h => h) (Or.inl ⟨by rfl, ?hyr6a_16⟩) (by assumption) ?rer6a_16
      case hyr6a_16 => (intro w hSw; (try dsimp only at hSw); go_simp; try with_reducible rfl)
      try simp only [Act.put, List.setIfInBounds_toArray, List.set_cons_zero, List.set_cons_succ]
      refine wpAnyH_take (i := 16) (oi := { dst := some 51, op := Go.Op.indexAddr 23 (Go.Operand.tmp 43) (Go.Operand.tmp 50), type := 0, pos := "fail.go:42", after := #[{ on := 8, ground := Go.Ground.data }, { on := 15, ground := Go.Ground.data }], guard := none }) (v := ?vr6a_17) rfl (by kernel_rfl) (by kernel_rfl) (by kernel_rfl) (fun _ _ _ h => h) (Or.inl ⟨by rfl, ?hyr6a_17⟩) (by assumption) ?rer6a_17
      case hyr6a_17 => (intro w hSw; (try dsimp only at hSw); go_simp; try with_reducible rfl)
      try simp only [Act.put, List.setIfInBounds_toArray, List.set_cons_zero, List.set_cons_succ]
      refine wpAnyH_take (i := 17) (oi := { dst := some 52, op := Go.Op.load 3 (Go.Operand.tmp 51), type := 3, pos := "fail.go:42", after := #[{ on := 16, ground := Go.Ground.data }], guard := none }) (v := ?vr6a_18) rfl (by kernel_rfl) (by kernel_rfl) (by kernel_rfl) (fun _ _ _ h => h) (Or.inl ⟨by rfl, ?hyr6a_18⟩) (by assumption) ?rer6a_18
      case hyr6a_18 => (intro w hSw; (try dsimp only at hSw); go_simp; try with_reducible rfl)
      try simp only [Act.put, List.setIfInBounds_toArray, List.set_cons_zero, List.set_cons_succ]
      refine wpAnyH_take (i := 18) (oi := { dst := some 53, op := Go.Op.indexAddr 23 (Go.Operand.tmp 38) (Go.Operand.tmp 39), type := 0, pos := "fail.go:42", after := #[{ on := 3, ground := Go.Ground.data }, { on := 4, ground := Go.Ground.data }, { on := 0, ground := Go.Ground.phase }, { on := 1, ground := Go.Ground.phase }, { on := 2, ground := Go.Ground.phase }, { on := 3, ground := Go.Ground.phase }, { on := 4, ground := Go.Ground.phase }, { on := 5, ground := Go.Ground.phase }, { on := 6, ground := Go.Ground.phase }, { on := 7, ground := Go.Ground.phase }, { on := 8, ground := Go.Ground.phase }, { on := 9, ground := Go.Ground.phase }, { on := 10, ground := Go.Ground.phase }, { on := 11, ground := Go.Ground.phase }, { on := 12, ground := Go.Ground.phase }, { on := 13, ground := Go.Ground.phase }, { on := 14, ground := Go.Ground.phase }, { on := 15, ground := Go.Ground.phase }, { on := 16, ground := Go.Ground.phase }, { on := 17, ground := Go.Ground.phase }], guard := none }) (v := ?vr6a_19) rfl (by kernel_rfl) (by kernel_rfl) (by kernel_rfl) (fun _ _ _ h => h) (Or.inl ⟨by rfl, ?hyr6a_19⟩) (by assumption) ?rer6a_19
      case hyr6a_19 => (intro w hSw; (try dsimp only at hSw); go_simp; try with_reducible rfl)
      try simp only [Act.put, List.setIfInBounds_toArray, List.set_cons_zero, List.set_cons_succ]
      refine wpAnyH_ready (rs := [19]) (by kernel_rfl) (by simp) ?rdr6a_20
      refine AllReadyH.cons (o := { dst := none, op := Go.Op.store 3 (Go.Operand.tmp 53) (Go.Operand.tmp 52), type := 0, pos := "fail.go:42", after := #[{ on := 18, ground := Go.Ground.data }, { on := 17, ground := Go.Ground.data }, { on := 0, ground := Go.Ground.phase }, { on := 1, ground := Go.Ground.phase }, { on := 2, ground := Go.Ground.phase }, { on := 3, ground := Go.Ground.phase }, { on := 4, ground := Go.Ground.phase }, { on := 5, ground := Go.Ground.phase }, { on := 6, ground := Go.Ground.phase }, { on := 7, ground := Go.Ground.phase }, { on := 8, ground := Go.Ground.phase }, { on := 9, ground := Go.Ground.phase }, { on := 10, ground := Go.Ground.phase }, { on := 11, ground := Go.Ground.phase }, { on := 12, ground := Go.Ground.phase }, { on := 13, ground := Go.Ground.phase }, { on := 14, ground := Go.Ground.phase }, { on := 15, ground := Go.Ground.phase }, { on := 16, ground := Go.Ground.phase }, { on := 17, ground := Go.Ground.phase }], guard := none }) rfl (fun K hK => ?str6a_20_0) AllReadyH.nil
      go_simp
      refine hK.out _ _ ?hsr6a_20_0 (fun hHeld => ?rer6a_20_0)
      case hsr6a_20_0 => exact S6.out
      clear hK K
      try simp only [Act.put, List.setIfInBounds_toArray, List.set_cons_zero, List.set_cons_succ]
      refine wpAnyH_done (by kernel_rfl) ?dnr6a_21 _
      obtain ⟨W6, hW6⟩ : ∃ W6, W6 = (W.setCell ⟨go, q, none⟩ (.int .i64 (atI s1.ol f))).drew := ⟨_, rfl⟩
      rw [← hW6]
      have L6 : Lk w0 W6 p gf go x.length t x ⟨s1.fl.set q f, (s1.ol.set q (atI s1.ol f)), s1.od⟩ vod1 := by rw [hW6]; exact HL6.out.2.grows ((Grows.refl _).drewN 1)
      have b06 : W6.cell? ⟨w.heap.size, 0, none⟩ = some (.pointer (some ⟨p, 0, none⟩)) := by rw [hW6]; exact S6.out.1
      have b16 : W6.cell? ⟨w.heap.size + 1, 0, none⟩ = some (.int .i64 n) := by rw [hW6]; exact cell_set_far (p := ⟨go, q, none⟩) (u := (.int .i64 (atI s1.ol f))) b15 (show w.heap.size + 1 ≠ go by have := HN.out.2.2.1; omega)
      have KO6 : KeepsOthers W W6 := by rw [hW6]; exact (KO5.trans (KeepsOthers.setCell _ ⟨go, q, none⟩ (.int .i64 (atI s1.ol f)))).trans (keepsO ((Grows.refl _).drewN 1).below)
      have c06 := L6.c0
      have HL7 := Aside0.mk L6
      have HK6 := Aside0.mk (And.intro KO6 b16)
      clear L6 hW6 HL6 S6 KO6 b16 b15 KO5 m1 m2 m3 m4 m5 m6 H45 b05
      obtain ⟨n4, he4⟩ : ∃ n4, n4 = (nodeOf x (q : Int)).f4.length := ⟨_, rfl⟩
      by_cases hl4 : 0 < n4
      · have dl4 : (0 : Int) < (n4 : Int) := by omega
        skip
        have HE4 := Aside0.mk he4
        have HD4 := Aside0.mk hl4
        clear hl4 he4
        gi_wp2_with (refine ⟨trivial, ?_⟩; gi_at_call 89; refine (CallsIn.inRound l (callsIn_wide.2 (ends_calls t x q _ (HL7.out.tr.below HL7.out.bw) HI.out.2.2.2.1))).mono ?_; rintro ee w7 ⟨v7, rfl, hv7, hb7⟩; obtain ⟨A7, c7, e7⟩ := Kd.R_slice hv7; subst e7; rw [← HE4.out]; have h77 := HL7.out.below hb7; have b07 := cell_below hb7 b06; have d2 := h77.c2; have d3 := h77.olAt q hqx; have d4 := h77.olz q; have H77 := Aside0.mk (And.intro h77 hb7); clear hv7 hb7 h77)
        obtain ⟨W8, hW8⟩ : ∃ W8, W8 = (w7.setCell ⟨go, q, none⟩ (.int .i64 (q : Int))) := ⟨_, rfl⟩
        rw [← hW8]
        have L8 : Lk w0 W8 p gf go x.length t x ⟨s1.fl.set q f, (s1.ol.set q (q : Int)), s1.od⟩ vod1 := by rw [hW8]; have := H77.out.1.setOl q (q : Int); rw [List.set_set] at this; exact this
        have b08 : W8.cell? ⟨w.heap.size, 0, none⟩ = some (.pointer (some ⟨p, 0, none⟩)) := by rw [hW8]; exact cell_set_far (p := ⟨go, q, none⟩) b07 (show w.heap.size ≠ go by have := HN.out.2.2.1; omega)
        have b18 : W8.cell? ⟨w.heap.size + 1, 0, none⟩ = some (.int .i64 n) := by rw [hW8]; exact cell_set_far (p := ⟨go, q, none⟩) (cell_below H77.out.2 HK6.out.2) (show w.heap.size + 1 ≠ go by have := HN.out.2.2.1; omega)
        have KO8 : KeepsOthers W W8 := by rw [hW8]; exact (HK6.out.1.trans (keepsO H77.out.2)).trans (KeepsOthers.setCell _ ⟨go, q, none⟩ _)
        have hs8 : s2 = ⟨s1.fl.set q f, (s1.ol.set q (q : Int)), s1.od ++ [(q : Int)]⟩ := by
          have h_ := HB.out.2.2.2.2.2.2.2.2.2.1
          rw [← HE4.out] at h_
          rw [h_]
          rw [if_pos (by have := HD4.out; omega)]
        have WE := Aside0.mk (show ∀ o : Obj, Lk w0 ((W8.alloc o).drew) p gf go x.length t x _ vod1 from fun o => L8.grows (((Grows.refl W8).alloc o).drewN 1))
        have j3 := L8.c3
        have j3a : ((W8.alloc (.cells #[.int .i64 (q : Int)] 3)).drew).cell? ⟨p, 3, none⟩ = some vod1 := (WE.out _).c3
        have b0a : ((W8.alloc (.cells #[.int .i64 (q : Int)] 3)).drew).cell? ⟨w.heap.size, 0, none⟩ = some (.pointer (some ⟨p, 0, none⟩)) := cell_grows (((Grows.refl W8).alloc _).drewN 1) b08
        obtain ⟨i0, hi0, hz0, hs0, hb0⟩ := info_parts info3
        have HI0 := Aside0.mk (And.intro hi0 (And.intro hz0 (And.intro hs0 hb0)))
        have hod9 : s1.od.length + 1 ≤ 10000000001 := by have h_1 := HB.out.2.2.1; have h_2 := HI.out.2.2.2.2.2.2; have h_3 := HB.out.2.2.2.2.2.2.2.2.2.2.1; omega
        have HK8 := Aside0.mk (And.intro KO8 (And.intro b18 (And.intro L8 hs8)))
        have hw9 : ∀ k, vod1.ownBlock = some k → k ≠ w.heap.size ∧ k ≠ w.heap.size + 1 := fun k hk => by have h_1 := HB.out.2.2.2.2.2.1 k hk; have h_2 := HS.out; omega
        have HW9 := Aside0.mk hw9
        clear hi0 hz0 hs0 hb0 hW8 H77 HK6 L8 b18 KO8 hs8 hw9 d2 d3 d4 b07 b06 c06
        gi_wp2
        refine wpIn_region_held (S := fun w' => w'.cell? ⟨w.heap.size, 0, none⟩ = some (.pointer (some ⟨p, 0, none⟩))) (by kernel_rfl) (by kernel_rfl) (by rintro ⟨a_, w_, h_⟩; exact h_) ?s0r9a1 (fun hHeld => ?b0r9a1)
        case s0r9a1 => exact b08
        refine wpAnyH_take (i := 0) (oi := { dst := some 69, op := Go.Op.load 52 (Go.Operand.tmp 2), type := 52, pos := "fail.go:46", after := #[], guard := none }) (v := ?vr9a1_22) rfl (by kernel_rfl) (by kernel_rfl) (by kernel_rfl) (fun _ _ _ h => h) (Or.inl ⟨by rfl, ?hyr9a1_22⟩) (by assumption) ?rer9a1_22
        case hyr9a1_22 => (intro w hSw; (try dsimp only at hSw); go_simp; try with_reducible rfl)
        try simp only [Act.put, List.setIfInBounds_toArray, List.set_cons_zero, List.set_cons_succ]
        refine wpAnyH_take (i := 1) (oi := { dst := some 70, op := Go.Op.load 52 (Go.Operand.tmp 2), type := 52, pos := "fail.go:46", after := #[], guard := none }) (v := ?vr9a1_23) rfl (by kernel_rfl) (by kernel_rfl) (by kernel_rfl) (fun _ _ _ h => h) (Or.inl ⟨by rfl, ?hyr9a1_23⟩) (by assumption) ?rer9a1_23
        case hyr9a1_23 => (intro w hSw; (try dsimp only at hSw); go_simp; try with_reducible rfl)
        try simp only [Act.put, List.setIfInBounds_toArray, List.set_cons_zero, List.set_cons_succ]
        refine wpAnyH_take (i := 2) (oi := { dst := some 71, op := Go.Op.nilCheck (Go.Operand.tmp 70), type := 0, pos := "fail.go:46", after := #[{ on := 1, ground := Go.Ground.data }], guard := none }) (v := ?vr9a1_24) rfl (by kernel_rfl) (by kernel_rfl) (by kernel_rfl) (fun _ _ _ h => h) (Or.inl ⟨by rfl, ?hyr9a1_24⟩) (by assumption) ?rer9a1_24
        case hyr9a1_24 => (intro w hSw; (try dsimp only at hSw); go_simp; try with_reducible rfl)
        try simp only [Act.put, List.setIfInBounds_toArray, List.set_cons_zero, List.set_cons_succ]
        refine wpAnyH_take (i := 3) (oi := { dst := some 72, op := Go.Op.fieldAddr 99 (Go.Operand.tmp 71) 3, type := 0, pos := "fail.go:46", after := #[{ on := 2, ground := Go.Ground.data }], guard := none }) (v := ?vr9a1_25) rfl (by kernel_rfl) (by kernel_rfl) (by kernel_rfl) (fun _ _ _ h => h) (Or.inl ⟨by rfl, ?hyr9a1_25⟩) (by assumption) ?rer9a1_25
        case hyr9a1_25 => (intro w hSw; (try dsimp only at hSw); go_simp; try with_reducible rfl)
        try simp only [Act.put, List.setIfInBounds_toArray, List.set_cons_zero, List.set_cons_succ]
        refine wpAnyH_take (i := 5) (oi := { dst := some 74, op := Go.Op.move (Go.Operand.tmp 5), type := 3, pos := "fail.go:46", after := #[], guard := none }) (v := ?vr9a1_26) rfl (by kernel_rfl) (by kernel_rfl) (by kernel_rfl) (fun _ _ _ h => h) (Or.inl ⟨by rfl, ?hyr9a1_26⟩) (by assumption) ?rer9a1_26
        case hyr9a1_26 => (intro w hSw; (try dsimp only at hSw); go_simp; try with_reducible rfl)
        try simp only [Act.put, List.setIfInBounds_toArray, List.set_cons_zero, List.set_cons_succ]
        refine wpAnyH_ready (rs := [4, 6]) (by kernel_rfl) (by simp) ?rdr9a1_27
        refine AllReadyH.cons (o := { dst := some 73, op := Go.Op.load 23 (Go.Operand.tmp 72), type := 23, pos := "fail.go:46", after := #[{ on := 3, ground := Go.Ground.data }], guard := none }) rfl (fun K hK => ?str9a1_27_0) ?mor9a1_27_0
        case str9a1_27_0 =>
          go_simp
          refine hK.out _ _ ?hsr9a1_27_0 (fun hHeld => ?rer9a1_27_0)
          case hsr9a1_27_0 => exact b08
          clear hK K
          try simp only [Act.put, List.setIfInBounds_toArray, List.set_cons_zero, List.set_cons_succ]
          refine wpAnyH_ready (rs := [6]) (by kernel_rfl) (by simp) ?rdr9a1_28
          refine AllReadyH.cons (o := { dst := some 75, op := Go.Op.buildSlice 23 1 #[(0, Go.Operand.tmp 74)], type := 23, pos := "fail.go:46", after := #[{ on := 5, ground := Go.Ground.data }], guard := none }) rfl (fun K hK => ?str9a1_28_0) AllReadyH.nil
          go_simp
          refine hK.out _ _ ?hsr9a1_28_0 (fun hHeld => ?rer9a1_28_0)
          case hsr9a1_28_0 => exact b0a
          clear hK K
          try simp only [Act.put, List.setIfInBounds_toArray, List.set_cons_zero, List.set_cons_succ]
          refine wpAnyH_ready (rs := [7]) (by kernel_rfl) (by simp) ?rdr9a1_29
          refine AllReadyH.cons (o := { dst := some 76, op := Go.Op.call { callee := Go.Callee.builtin Go.Builtin.append, args := #[Go.Operand.tmp 73, Go.Operand.tmp 75], argTypes := #[23, 23] }, type := 23, pos := "fail.go:46", after := #[{ on := 4, ground := Go.Ground.data }, { on := 6, ground := Go.Ground.data }], guard := none }) rfl (fun K hK => ?str9a1_29_0) AllReadyH.nil
          refine step_append_lies _ rfl (.tmp 73) (.tmp 75) 23 rfl w0.heap.size 3 i0 (.int .i64 0) 1 8 Try.underlying23 HI0.out.1 HI0.out.2.1 HI0.out.2.2.1 HI0.out.2.2.2 rfl (by decide) vod1 s1.od.length (encI s1.od) (by simp [Act.eval, Act.put]) (WE.out _).od ⟨W8.heap.size, 0, none⟩ 1 1 [.int .i64 (q : Int)] (by simp [Act.eval, Act.put]) rfl (World.news_of_block (heap_alloc_new _ _)) (by simp [Value.oneCell']) (by decide) (by unfold maxLen; omega) (by omega) (WE.out _).bw.size _ rfl ?_
          intro g9 cap9 w9 ho9 hg9 hat9 hlt9
          have b9 := blk_grown (WE.out (.cells #[.int .i64 (q : Int)] 3)).blk hg9 (fun e_ => by rcases own_ne_blk (WE.out (.cells #[.int .i64 (q : Int)] 3)).od (WE.out (.cells #[.int .i64 (q : Int)] 3)).blk (by decide) with h_1 | h_1; (rw [h_1] at e_; cases e_); exact h_1 e_.symm)
          have k39 : w9.cell? ⟨p, 3, none⟩ = some vod1 := by rw [blk_cell b9]; rfl
          have z39 := blk_frozen b9 3
          have b09 : w9.cell? ⟨w.heap.size, 0, none⟩ = some (.pointer (some ⟨p, 0, none⟩)) := (hg9.cell_far _ (World.block_lt_of_cell? _ _ b0a) (fun e_ => (HW9.out _ e_.symm).1 rfl)).trans b0a
          have b0f := cell_set_far (p := ⟨p, 3, none⟩) (u := .slice (some ⟨g9, 0, none⟩) (s1.od.length + 1) cap9) b09 (show w.heap.size ≠ p by omega)
          have H9 := Aside0.mk (And.intro ho9 (And.intro hg9 (And.intro hat9 b0f)))
          clear ho9 hg9 hat9 b9 b0f
          refine hK.out _ _ ?hsr9a1_29_0 (fun hHeld => ?rer9a1_29_0)
          case hsr9a1_29_0 => exact b09
          clear hK K
          try simp only [Act.put, List.setIfInBounds_toArray, List.set_cons_zero, List.set_cons_succ]
          refine wpAnyH_take (i := 8) (oi := { dst := some 77, op := Go.Op.nilCheck (Go.Operand.tmp 69), type := 0, pos := "fail.go:46", after := #[{ on := 0, ground := Go.Ground.data }, { on := 0, ground := Go.Ground.phase }, { on := 1, ground := Go.Ground.phase }, { on := 2, ground := Go.Ground.phase }, { on := 3, ground := Go.Ground.phase }, { on := 4, ground := Go.Ground.phase }, { on := 5, ground := Go.Ground.phase }, { on := 6, ground := Go.Ground.phase }, { on := 7, ground := Go.Ground.phase }], guard := none }) (v := ?vr9a1_30) rfl (by kernel_rfl) (by kernel_rfl) (by kernel_rfl) (fun _ _ _ h => h) (Or.inl ⟨by rfl, ?hyr9a1_30⟩) (by assumption) ?rer9a1_30
          case hyr9a1_30 => (intro w hSw; (try dsimp only at hSw); go_simp; try with_reducible rfl)
          try simp only [Act.put, List.setIfInBounds_toArray, List.set_cons_zero, List.set_cons_succ]
          refine wpAnyH_take (i := 9) (oi := { dst := some 78, op := Go.Op.fieldAddr 99 (Go.Operand.tmp 77) 3, type := 0, pos := "fail.go:46", after := #[{ on := 8, ground := Go.Ground.data }, { on := 0, ground := Go.Ground.phase }, { on := 1, ground := Go.Ground.phase }, { on := 2, ground := Go.Ground.phase }, { on := 3, ground := Go.Ground.phase }, { on := 4, ground := Go.Ground.phase }, { on := 5, ground := Go.Ground.phase }, { on := 6, ground := Go.Ground.phase }, { on := 7, ground := Go.Ground.phase }], guard := none }) (v := ?vr9a1_31) rfl (by kernel_rfl) (by kernel_rfl) (by kernel_rfl) (fun _ _ _ h => h) (Or.inl ⟨by rfl, ?hyr9a1_31⟩) (by assumption) ?rer9a1_31
          case hyr9a1_31 => (intro w hSw; (try dsimp only at hSw); go_simp; try with_reducible rfl)
          try simp only [Act.put, List.setIfInBounds_toArray, List.set_cons_zero, List.set_cons_succ]
          refine wpAnyH_ready (rs := [10]) (by kernel_rfl) (by simp) ?rdr9a1_32
          refine AllReadyH.cons (o := { dst := none, op := Go.Op.store 23 (Go.Operand.tmp 78) (Go.Operand.tmp 76), type := 0, pos := "fail.go:46", after := #[{ on := 9, ground := Go.Ground.data }, { on := 7, ground := Go.Ground.data }, { on := 7, ground := Go.Ground.chain }, { on := 0, ground := Go.Ground.phase }, { on := 1, ground := Go.Ground.phase }, { on := 2, ground := Go.Ground.phase }, { on := 3, ground := Go.Ground.phase }, { on := 4, ground := Go.Ground.phase }, { on := 5, ground := Go.Ground.phase }, { on := 6, ground := Go.Ground.phase }, { on := 7, ground := Go.Ground.phase }], guard := none }) rfl (fun K hK => ?str9a1_32_0) AllReadyH.nil
          go_simp
          refine hK.out _ _ ?hsr9a1_32_0 (fun hHeld => ?rer9a1_32_0)
          case hsr9a1_32_0 => exact H9.out.2.2.2
          clear hK K
          try simp only [Act.put, List.setIfInBounds_toArray, List.set_cons_zero, List.set_cons_succ]
          refine wpAnyH_done (by kernel_rfl) ?dnr9a1_33 _
          gi_wp2
          have L9 := (WE.out (.cells #[.int .i64 (q : Int)] 3)).setOd (.slice (some ⟨g9, 0, none⟩) (s1.od.length + 1) cap9) (s1.od ++ [(q : Int)]) H9.out.2.1 (by rw [List.length_append, show encI (s1.od ++ [(q : Int)]) = encI s1.od ++ [.int .i64 (q : Int)] by simp [encI, encs]]; exact H9.out.1) (by rcases H9.out.2.2.1 with h_ | h_; exact .inl h_.symm; exact .inr ⟨g9, rfl, by rw [h_]; exact Nat.le_refl _⟩)
          have KO9 := ((HK8.out.1.trans (keepsO (((Grows.refl W8).alloc (.cells #[.int .i64 (q : Int)] 3)).drewN 1).below)).trans (KeepsOthers.of_grownBy H9.out.2.1 (fun j o e_ ho_ => by rcases (WE.out (.cells #[.int .i64 (q : Int)] 3)).od.2 with ⟨h_1, _⟩ | ⟨g_, c_, u_, h_1, _, h_2, _⟩; (rw [h_1] at e_; cases e_); (rw [h_1] at e_; simp [Value.ownBlock] at e_; subst e_; obtain rfl := Option.some.inj (h_2.symm.trans ho_); rfl)))).trans (KeepsOthers.setCell w9 ⟨p, 3, none⟩ (.slice (some ⟨g9, 0, none⟩) (s1.od.length + 1) cap9))
          have b19 := cell_set_far (p := ⟨p, 3, none⟩) (u := .slice (some ⟨g9, 0, none⟩) (s1.od.length + 1) cap9) ((H9.out.2.1.cell_far _ (World.block_lt_of_cell? _ _ (cell_grows (((Grows.refl W8).alloc (.cells #[.int .i64 (q : Int)] 3)).drewN 1) HK8.out.2.1)) (fun e_ => (HW9.out _ e_.symm).2 rfl)).trans (cell_grows (((Grows.refl W8).alloc (.cells #[.int .i64 (q : Int)] 3)).drewN 1) HK8.out.2.1)) (show w.heap.size + 1 ≠ p by omega)
          refine ⟨KO9.from _, below_between HB.out.2.2.2.1.bw L9.bw KO9.size, s2, (.slice (some ⟨g9, 0, none⟩) (s1.od.length + 1) cap9), ?_, HB.out.2.2.2.2.2.2.2.1, ?_, ?_, H9.out.2.2.2, b19, Nat.le_trans HB.out.2.2.2.2.1 KO9.size, ?_⟩
          · rw [List.map_append, List.map_singleton, visitL_snoc, HB.out.1]; exact HB.out.2.2.2.2.2.2.1
          · rw [HB.out.2.2.2.2.2.2.2.2.1, List.length_append, HB.out.2.2.1, List.length_append]; simp; omega
          · rw [HK8.out.2.2.2]; exact L9
          · intro k hk
            have hk' : g9 = k := by simpa [Value.ownBlock] using hk
            subst hk'
            rcases H9.out.2.2.1 with h_ | h_
            · exact HB.out.2.2.2.2.2.1 _ h_
            · refine .inr ?_
              rw [h_]
              exact Nat.le_trans HB.out.2.2.2.2.1 (Nat.le_trans HK8.out.1.size ((((Grows.refl W8).alloc (.cells #[.int .i64 (q : Int)] 3)).drewN 1).below.size))
        refine AllReadyH.cons (o := { dst := some 75, op := Go.Op.buildSlice 23 1 #[(0, Go.Operand.tmp 74)], type := 23, pos := "fail.go:46", after := #[{ on := 5, ground := Go.Ground.data }], guard := none }) rfl (fun K hK => ?str9a1_27_1) AllReadyH.nil
        go_simp
        refine hK.out _ _ ?hsr9a1_27_1 (fun hHeld => ?rer9a1_27_1)
        case hsr9a1_27_1 => exact b0a
        clear hK K
        try simp only [Act.put, List.setIfInBounds_toArray, List.set_cons_zero, List.set_cons_succ]
        refine wpAnyH_ready (rs := [4]) (by kernel_rfl) (by simp) ?rdr9a1_34
        refine AllReadyH.cons (o := { dst := some 73, op := Go.Op.load 23 (Go.Operand.tmp 72), type := 23, pos := "fail.go:46", after := #[{ on := 3, ground := Go.Ground.data }], guard := none }) rfl (fun K hK => ?str9a1_34_0) AllReadyH.nil
        go_simp
        refine hK.out _ _ ?hsr9a1_34_0 (fun hHeld => ?rer9a1_34_0)
        case hsr9a1_34_0 => exact b0a
        clear hK K
        try simp only [Act.put, List.setIfInBounds_toArray, List.set_cons_zero, List.set_cons_succ]
        refine wpAnyH_ready (rs := [7]) (by kernel_rfl) (by simp) ?rdr9a1_35
        refine AllReadyH.cons (o := { dst := some 76, op := Go.Op.call { callee := Go.Callee.builtin Go.Builtin.append, args := #[Go.Operand.tmp 73, Go.Operand.tmp 75], argTypes := #[23, 23] }, type := 23, pos := "fail.go:46", after := #[{ on := 4, ground := Go.Ground.data }, { on := 6, ground := Go.Ground.data }], guard := none }) rfl (fun K hK => ?str9a1_35_0) AllReadyH.nil
        refine step_append_lies _ rfl (.tmp 73) (.tmp 75) 23 rfl w0.heap.size 3 i0 (.int .i64 0) 1 8 Try.underlying23 HI0.out.1 HI0.out.2.1 HI0.out.2.2.1 HI0.out.2.2.2 rfl (by decide) vod1 s1.od.length (encI s1.od) (by simp [Act.eval, Act.put]) (WE.out _).od ⟨W8.heap.size, 0, none⟩ 1 1 [.int .i64 (q : Int)] (by simp [Act.eval, Act.put]) rfl (World.news_of_block (heap_alloc_new _ _)) (by simp [Value.oneCell']) (by decide) (by unfold maxLen; omega) (by omega) (WE.out _).bw.size _ rfl ?_
        intro g9 cap9 w9 ho9 hg9 hat9 hlt9
        have b9 := blk_grown (WE.out (.cells #[.int .i64 (q : Int)] 3)).blk hg9 (fun e_ => by rcases own_ne_blk (WE.out (.cells #[.int .i64 (q : Int)] 3)).od (WE.out (.cells #[.int .i64 (q : Int)] 3)).blk (by decide) with h_1 | h_1; (rw [h_1] at e_; cases e_); exact h_1 e_.symm)
        have k39 : w9.cell? ⟨p, 3, none⟩ = some vod1 := by rw [blk_cell b9]; rfl
        have z39 := blk_frozen b9 3
        have b09 : w9.cell? ⟨w.heap.size, 0, none⟩ = some (.pointer (some ⟨p, 0, none⟩)) := (hg9.cell_far _ (World.block_lt_of_cell? _ _ b0a) (fun e_ => (HW9.out _ e_.symm).1 rfl)).trans b0a
        have b0f := cell_set_far (p := ⟨p, 3, none⟩) (u := .slice (some ⟨g9, 0, none⟩) (s1.od.length + 1) cap9) b09 (show w.heap.size ≠ p by omega)
        have H9 := Aside0.mk (And.intro ho9 (And.intro hg9 (And.intro hat9 b0f)))
        clear ho9 hg9 hat9 b9 b0f
        refine hK.out _ _ ?hsr9a1_35_0 (fun hHeld => ?rer9a1_35_0)
        case hsr9a1_35_0 => exact b09
        clear hK K
        try simp only [Act.put, List.setIfInBounds_toArray, List.set_cons_zero, List.set_cons_succ]
        refine wpAnyH_take (i := 8) (oi := { dst := some 77, op := Go.Op.nilCheck (Go.Operand.tmp 69), type := 0, pos := "fail.go:46", after := #[{ on := 0, ground := Go.Ground.data }, { on := 0, ground := Go.Ground.phase }, { on := 1, ground := Go.Ground.phase }, { on := 2, ground := Go.Ground.phase }, { on := 3, ground := Go.Ground.phase }, { on := 4, ground := Go.Ground.phase }, { on := 5, ground := Go.Ground.phase }, { on := 6, ground := Go.Ground.phase }, { on := 7, ground := Go.Ground.phase }], guard := none }) (v := ?vr9a1_36) rfl (by kernel_rfl) (by kernel_rfl) (by kernel_rfl) (fun _ _ _ h => h) (Or.inl ⟨by rfl, ?hyr9a1_36⟩) (by assumption) ?rer9a1_36
        case hyr9a1_36 => (intro w hSw; (try dsimp only at hSw); go_simp; try with_reducible rfl)
        try simp only [Act.put, List.setIfInBounds_toArray, List.set_cons_zero, List.set_cons_succ]
        refine wpAnyH_take (i := 9) (oi := { dst := some 78, op := Go.Op.fieldAddr 99 (Go.Operand.tmp 77) 3, type := 0, pos := "fail.go:46", after := #[{ on := 8, ground := Go.Ground.data }, { on := 0, ground := Go.Ground.phase }, { on := 1, ground := Go.Ground.phase }, { on := 2, ground := Go.Ground.phase }, { on := 3, ground := Go.Ground.phase }, { on := 4, ground := Go.Ground.phase }, { on := 5, ground := Go.Ground.phase }, { on := 6, ground := Go.Ground.phase }, { on := 7, ground := Go.Ground.phase }], guard := none }) (v := ?vr9a1_37) rfl (by kernel_rfl) (by kernel_rfl) (by kernel_rfl) (fun _ _ _ h => h) (Or.inl ⟨by rfl, ?hyr9a1_37⟩) (by assumption) ?rer9a1_37
        case hyr9a1_37 => (intro w hSw; (try dsimp only at hSw); go_simp; try with_reducible rfl)
        try simp only [Act.put, List.setIfInBounds_toArray, List.set_cons_zero, List.set_cons_succ]
        refine wpAnyH_ready (rs := [10]) (by kernel_rfl) (by simp) ?rdr9a1_38
        refine AllReadyH.cons (o := { dst := none, op := Go.Op.store 23 (Go.Operand.tmp 78) (Go.Operand.tmp 76), type := 0, pos := "fail.go:46", after := #[{ on := 9, ground := Go.Ground.data }, { on := 7, ground := Go.Ground.data }, { on := 7, ground := Go.Ground.chain }, { on := 0, ground := Go.Ground.phase }, { on := 1, ground := Go.Ground.phase }, { on := 2, ground := Go.Ground.phase }, { on := 3, ground := Go.Ground.phase }, { on := 4, ground := Go.Ground.phase }, { on := 5, ground := Go.Ground.phase }, { on := 6, ground := Go.Ground.phase }, { on := 7, ground := Go.Ground.phase }], guard := none }) rfl (fun K hK => ?str9a1_38_0) AllReadyH.nil
        go_simp
        refine hK.out _ _ ?hsr9a1_38_0 (fun hHeld => ?rer9a1_38_0)
        case hsr9a1_38_0 => exact H9.out.2.2.2
        clear hK K
        try simp only [Act.put, List.setIfInBounds_toArray, List.set_cons_zero, List.set_cons_succ]
        refine wpAnyH_done (by kernel_rfl) ?dnr9a1_39 _
        gi_wp2
        have L9 := (WE.out (.cells #[.int .i64 (q : Int)] 3)).setOd (.slice (some ⟨g9, 0, none⟩) (s1.od.length + 1) cap9) (s1.od ++ [(q : Int)]) H9.out.2.1 (by rw [List.length_append, show encI (s1.od ++ [(q : Int)]) = encI s1.od ++ [.int .i64 (q : Int)] by simp [encI, encs]]; exact H9.out.1) (by rcases H9.out.2.2.1 with h_ | h_; exact .inl h_.symm; exact .inr ⟨g9, rfl, by rw [h_]; exact Nat.le_refl _⟩)
        have KO9 := ((HK8.out.1.trans (keepsO (((Grows.refl W8).alloc (.cells #[.int .i64 (q : Int)] 3)).drewN 1).below)).trans (KeepsOthers.of_grownBy H9.out.2.1 (fun j o e_ ho_ => by rcases (WE.out (.cells #[.int .i64 (q : Int)] 3)).od.2 with ⟨h_1, _⟩ | ⟨g_, c_, u_, h_1, _, h_2, _⟩; (rw [h_1] at e_; cases e_); (rw [h_1] at e_; simp [Value.ownBlock] at e_; subst e_; obtain rfl := Option.some.inj (h_2.symm.trans ho_); rfl)))).trans (KeepsOthers.setCell w9 ⟨p, 3, none⟩ (.slice (some ⟨g9, 0, none⟩) (s1.od.length + 1) cap9))
        have b19 := cell_set_far (p := ⟨p, 3, none⟩) (u := .slice (some ⟨g9, 0, none⟩) (s1.od.length + 1) cap9) ((H9.out.2.1.cell_far _ (World.block_lt_of_cell? _ _ (cell_grows (((Grows.refl W8).alloc (.cells #[.int .i64 (q : Int)] 3)).drewN 1) HK8.out.2.1)) (fun e_ => (HW9.out _ e_.symm).2 rfl)).trans (cell_grows (((Grows.refl W8).alloc (.cells #[.int .i64 (q : Int)] 3)).drewN 1) HK8.out.2.1)) (show w.heap.size + 1 ≠ p by omega)
        refine ⟨KO9.from _, below_between HB.out.2.2.2.1.bw L9.bw KO9.size, s2, (.slice (some ⟨g9, 0, none⟩) (s1.od.length + 1) cap9), ?_, HB.out.2.2.2.2.2.2.2.1, ?_, ?_, H9.out.2.2.2, b19, Nat.le_trans HB.out.2.2.2.2.1 KO9.size, ?_⟩
        · rw [List.map_append, List.map_singleton, visitL_snoc, HB.out.1]; exact HB.out.2.2.2.2.2.2.1
        · rw [HB.out.2.2.2.2.2.2.2.2.1, List.length_append, HB.out.2.2.1, List.length_append]; simp; omega
        · rw [HK8.out.2.2.2]; exact L9
        · intro k hk
          have hk' : g9 = k := by simpa [Value.ownBlock] using hk
          subst hk'
          rcases H9.out.2.2.1 with h_ | h_
          · exact HB.out.2.2.2.2.2.1 _ h_
          · refine .inr ?_
            rw [h_]
            exact Nat.le_trans HB.out.2.2.2.2.1 (Nat.le_trans HK8.out.1.size ((((Grows.refl W8).alloc (.cells #[.int .i64 (q : Int)] 3)).drewN 1).below.size))
      · have h40 : n4 = 0 := by omega
        subst h40
        have HE4 := Aside0.mk he4
        have HD4 := Aside0.mk (Nat.lt_irrefl 0)
        clear hl4 he4
        gi_wp2_with (refine ⟨trivial, ?_⟩; gi_at_call 89; refine (CallsIn.inRound l (callsIn_wide.2 (ends_calls t x q _ (HL7.out.tr.below HL7.out.bw) HI.out.2.2.2.1))).mono ?_; rintro ee w7 ⟨v7, rfl, hv7, hb7⟩; obtain ⟨A7, c7, e7⟩ := Kd.R_slice hv7; subst e7; rw [← HE4.out]; have h77 := HL7.out.below hb7; have b07 := cell_below hb7 b06; have d2 := h77.c2; have d3 := h77.olAt q hqx; have d4 := h77.olz q; have H77 := Aside0.mk (And.intro h77 hb7); clear hv7 hb7 h77)
        obtain ⟨W8, hW8⟩ : ∃ W8, W8 = w7 := ⟨_, rfl⟩
        rw [← hW8]
        have L8 : Lk w0 W8 p gf go x.length t x ⟨s1.fl.set q f, (s1.ol.set q (atI s1.ol f)), s1.od⟩ vod1 := by rw [hW8]; exact H77.out.1
        have b08 : W8.cell? ⟨w.heap.size, 0, none⟩ = some (.pointer (some ⟨p, 0, none⟩)) := by rw [hW8]; exact b07
        have b18 : W8.cell? ⟨w.heap.size + 1, 0, none⟩ = some (.int .i64 n) := by rw [hW8]; exact cell_below H77.out.2 HK6.out.2
        have KO8 : KeepsOthers W W8 := by rw [hW8]; exact HK6.out.1.trans (keepsO H77.out.2)
        have hs8 : s2 = ⟨s1.fl.set q f, (s1.ol.set q (atI s1.ol f)), s1.od ++ [(q : Int)]⟩ := by
          have h_ := HB.out.2.2.2.2.2.2.2.2.2.1
          rw [← HE4.out] at h_
          rw [h_]
          rw [if_neg (by have := HD4.out; omega)]
        have WE := Aside0.mk (show ∀ o : Obj, Lk w0 ((W8.alloc o).drew) p gf go x.length t x _ vod1 from fun o => L8.grows (((Grows.refl W8).alloc o).drewN 1))
        have j3 := L8.c3
        have j3a : ((W8.alloc (.cells #[.int .i64 (q : Int)] 3)).drew).cell? ⟨p, 3, none⟩ = some vod1 := (WE.out _).c3
        have b0a : ((W8.alloc (.cells #[.int .i64 (q : Int)] 3)).drew).cell? ⟨w.heap.size, 0, none⟩ = some (.pointer (some ⟨p, 0, none⟩)) := cell_grows (((Grows.refl W8).alloc _).drewN 1) b08
        obtain ⟨i0, hi0, hz0, hs0, hb0⟩ := info_parts info3
        have HI0 := Aside0.mk (And.intro hi0 (And.intro hz0 (And.intro hs0 hb0)))
        have hod9 : s1.od.length + 1 ≤ 10000000001 := by have h_1 := HB.out.2.2.1; have h_2 := HI.out.2.2.2.2.2.2; have h_3 := HB.out.2.2.2.2.2.2.2.2.2.2.1; omega
        have HK8 := Aside0.mk (And.intro KO8 (And.intro b18 (And.intro L8 hs8)))
        have hw9 : ∀ k, vod1.ownBlock = some k → k ≠ w.heap.size ∧ k ≠ w.heap.size + 1 := fun k hk => by have h_1 := HB.out.2.2.2.2.2.1 k hk; have h_2 := HS.out; omega
        have HW9 := Aside0.mk hw9
        clear hi0 hz0 hs0 hb0 hW8 H77 HK6 L8 b18 KO8 hs8 hw9 d2 d3 d4 b07 b06 c06
        gi_wp2
        refine wpIn_region_held (S := fun w' => w'.cell? ⟨w.heap.size, 0, none⟩ = some (.pointer (some ⟨p, 0, none⟩))) (by kernel_rfl) (by kernel_rfl) (by rintro ⟨a_, w_, h_⟩; exact h_) ?s0r9a0 (fun hHeld => ?b0r9a0)
        case s0r9a0 => exact b08
        refine wpAnyH_take (i := 0) (oi := { dst := some 69, op := Go.Op.load 52 (Go.Operand.tmp 2), type := 52, pos := "fail.go:46", after := #[], guard := none }) (v := ?vr9a0_40) rfl (by kernel_rfl) (by kernel_rfl) (by kernel_rfl) (fun _ _ _ h => h) (Or.inl ⟨by rfl, ?hyr9a0_40⟩) (by assumption) ?rer9a0_40
        case hyr9a0_40 => (intro w hSw; (try dsimp only at hSw); go_simp; try with_reducible rfl)
        try simp only [Act.put, List.setIfInBounds_toArray, List.set_cons_zero, List.set_cons_succ]
        refine wpAnyH_take (i := 1) (oi := { dst := some 70, op := Go.Op.load 52 (Go.Operand.tmp 2), type := 52, pos := "fail.go:46", after := #[], guard := none }) (v := ?vr9a0_41) rfl (by kernel_rfl) (by kernel_rfl) (by kernel_rfl) (fun _ _ _ h => h) (Or.inl ⟨by rfl, ?hyr9a0_41⟩) (by assumption) ?rer9a0_41
        case hyr9a0_41 => (intro w hSw; (try dsimp only at hSw); go_simp; try with_reducible rfl)
        try simp only [Act.put, List.setIfInBounds_toArray, List.set_cons_zero, List.set_cons_succ]
        refine wpAnyH_take (i := 2) (oi := { dst := some 71, op := Go.Op.nilCheck (Go.Operand.tmp 70), type := 0, pos := "fail.go:46", after := #[{ on := 1, ground := Go.Ground.data }], guard := none }) (v := ?vr9a0_42) rfl (by kernel_rfl) (by kernel_rfl) (by kernel_rfl) (fun _ _ _ h => h) (Or.inl ⟨by rfl, ?hyr9a0_42⟩) (by assumption) ?rer9a0_42
        case hyr9a0_42 => (intro w hSw; (try dsimp only at hSw); go_simp; try with_reducible rfl)
        try simp only [Act.put, List.setIfInBounds_toArray, List.set_cons_zero, List.set_cons_succ]
        refine wpAnyH_take (i := 3) (oi := { dst := some 72, op := Go.Op.fieldAddr 99 (Go.Operand.tmp 71) 3, type := 0, pos := "fail.go:46", after := #[{ on := 2, ground := Go.Ground.data }], guard := none }) (v := ?vr9a0_43) rfl (by kernel_rfl) (by kernel_rfl) (by kernel_rfl) (fun _ _ _ h => h) (Or.inl ⟨by rfl, ?hyr9a0_43⟩) (by assumption) ?rer9a0_43
        case hyr9a0_43 => (intro w hSw; (try dsimp only at hSw); go_simp; try with_reducible rfl)
        try simp only [Act.put, List.setIfInBounds_toArray, List.set_cons_zero, List.set_cons_succ]
        refine wpAnyH_take (i := 5) (oi := { dst := some 74, op := Go.Op.move (Go.Operand.tmp 5), type := 3, pos := "fail.go:46", after := #[], guard := none }) (v := ?vr9a0_44) rfl (by kernel_rfl) (by kernel_rfl) (by kernel_rfl) (fun _ _ _ h => h) (Or.inl ⟨by rfl, ?hyr9a0_44⟩) (by assumption) ?rer9a0_44
        case hyr9a0_44 => (intro w hSw; (try dsimp only at hSw); go_simp; try with_reducible rfl)
        try simp only [Act.put, List.setIfInBounds_toArray, List.set_cons_zero, List.set_cons_succ]
        refine wpAnyH_ready (rs := [4, 6]) (by kernel_rfl) (by simp) ?rdr9a0_45
        refine AllReadyH.cons (o := { dst := some 73, op := Go.Op.load 23 (Go.Operand.tmp 72), type := 23, pos := "fail.go:46", after := #[{ on := 3, ground := Go.Ground.data }], guard := none }) rfl (fun K hK => ?str9a0_45_0) ?mor9a0_45_0
        case str9a0_45_0 =>
          go_simp
          refine hK.out _ _ ?hsr9a0_45_0 (fun hHeld => ?rer9a0_45_0)
          case hsr9a0_45_0 => exact b08
          clear hK K
          try simp only [Act.put, List.setIfInBounds_toArray, List.set_cons_zero, List.set_cons_succ]
          refine wpAnyH_ready (rs := [6]) (by kernel_rfl) (by simp) ?rdr9a0_46
          refine AllReadyH.cons (o := { dst := some 75, op := Go.Op.buildSlice 23 1 #[(0, Go.Operand.tmp 74)], type := 23, pos := "fail.go:46", after := #[{ on := 5, ground := Go.Ground.data }], guard := none }) rfl (fun K hK => ?str9a0_46_0) AllReadyH.nil
          go_simp
          refine hK.out _ _ ?hsr9a0_46_0 (fun hHeld => ?rer9a0_46_0)
          case hsr9a0_46_0 => exact b0a
          clear hK K
          try simp only [Act.put, List.setIfInBounds_toArray, List.set_cons_zero, List.set_cons_succ]
          refine wpAnyH_ready (rs := [7]) (by kernel_rfl) (by simp) ?rdr9a0_47
          refine AllReadyH.cons (o := { dst := some 76, op := Go.Op.call { callee := Go.Callee.builtin Go.Builtin.append, args := #[Go.Operand.tmp 73, Go.Operand.tmp 75], argTypes := #[23, 23] }, type := 23, pos := "fail.go:46", after := #[{ on := 4, ground := Go.Ground.data }, { on := 6, ground := Go.Ground.data }], guard := none }) rfl (fun K hK => ?str9a0_47_0) AllReadyH.nil
          refine step_append_lies _ rfl (.tmp 73) (.tmp 75) 23 rfl w0.heap.size 3 i0 (.int .i64 0) 1 8 Try.underlying23 HI0.out.1 HI0.out.2.1 HI0.out.2.2.1 HI0.out.2.2.2 rfl (by decide) vod1 s1.od.length (encI s1.od) (by simp [Act.eval, Act.put]) (WE.out _).od ⟨W8.heap.size, 0, none⟩ 1 1 [.int .i64 (q : Int)] (by simp [Act.eval, Act.put]) rfl (World.news_of_block (heap_alloc_new _ _)) (by simp [Value.oneCell']) (by decide) (by unfold maxLen; omega) (by omega) (WE.out _).bw.size _ rfl ?_
          intro g9 cap9 w9 ho9 hg9 hat9 hlt9
          have b9 := blk_grown (WE.out (.cells #[.int .i64 (q : Int)] 3)).blk hg9 (fun e_ => by rcases own_ne_blk (WE.out (.cells #[.int .i64 (q : Int)] 3)).od (WE.out (.cells #[.int .i64 (q : Int)] 3)).blk (by decide) with h_1 | h_1; (rw [h_1] at e_; cases e_); exact h_1 e_.symm)
          have k39 : w9.cell? ⟨p, 3, none⟩ = some vod1 := by rw [blk_cell b9]; rfl
          have z39 := blk_frozen b9 3
          have b09 : w9.cell? ⟨w.heap.size, 0, none⟩ = some (.pointer (some ⟨p, 0, none⟩)) := (hg9.cell_far _ (World.block_lt_of_cell? _ _ b0a) (fun e_ => (HW9.out _ e_.symm).1 rfl)).trans b0a
          have b0f := cell_set_far (p := ⟨p, 3, none⟩) (u := .slice (some ⟨g9, 0, none⟩) (s1.od.length + 1) cap9) b09 (show w.heap.size ≠ p by omega)
          have H9 := Aside0.mk (And.intro ho9 (And.intro hg9 (And.intro hat9 b0f)))
          clear ho9 hg9 hat9 b9 b0f
          refine hK.out _ _ ?hsr9a0_47_0 (fun hHeld => ?rer9a0_47_0)
          case hsr9a0_47_0 => exact b09
          clear hK K
          try simp only [Act.put, List.setIfInBounds_toArray, List.set_cons_zero, List.set_cons_succ]
          refine wpAnyH_take (i := 8) (oi := { dst := some 77, op := Go.Op.nilCheck (Go.Operand.tmp 69), type := 0, pos := "fail.go:46", after := #[{ on := 0, ground := Go.Ground.data }, { on := 0, ground := Go.Ground.phase }, { on := 1, ground := Go.Ground.phase }, { on := 2, ground := Go.Ground.phase }, { on := 3, ground := Go.Ground.phase }, { on := 4, ground := Go.Ground.phase }, { on := 5, ground := Go.Ground.phase }, { on := 6, ground := Go.Ground.phase }, { on := 7, ground := Go.Ground.phase }], guard := none }) (v := ?vr9a0_48) rfl (by kernel_rfl) (by kernel_rfl) (by kernel_rfl) (fun _ _ _ h => h) (Or.inl ⟨by rfl, ?hyr9a0_48⟩) (by assumption) ?rer9a0_48
          case hyr9a0_48 => (intro w hSw; (try dsimp only at hSw); go_simp; try with_reducible rfl)
          try simp only [Act.put, List.setIfInBounds_toArray, List.set_cons_zero, List.set_cons_succ]
          refine wpAnyH_take (i := 9) (oi := { dst := some 78, op := Go.Op.fieldAddr 99 (Go.Operand.tmp 77) 3, type := 0, pos := "fail.go:46", after := #[{ on := 8, ground := Go.Ground.data }, { on := 0, ground := Go.Ground.phase }, { on := 1, ground := Go.Ground.phase }, { on := 2, ground := Go.Ground.phase }, { on := 3, ground := Go.Ground.phase }, { on := 4, ground := Go.Ground.phase }, { on := 5, ground := Go.Ground.phase }, { on := 6, ground := Go.Ground.phase }, { on := 7, ground := Go.Ground.phase }], guard := none }) (v := ?vr9a0_49) rfl (by kernel_rfl) (by kernel_rfl) (by kernel_rfl) (fun _ _ _ h => h) (Or.inl ⟨by rfl, ?hyr9a0_49⟩) (by assumption) ?rer9a0_49
          case hyr9a0_49 => (intro w hSw; (try dsimp only at hSw); go_simp; try with_reducible rfl)
          try simp only [Act.put, List.setIfInBounds_toArray, List.set_cons_zero, List.set_cons_succ]
          refine wpAnyH_ready (rs := [10]) (by kernel_rfl) (by simp) ?rdr9a0_50
          refine AllReadyH.cons (o := { dst := none, op := Go.Op.store 23 (Go.Operand.tmp 78) (Go.Operand.tmp 76), type := 0, pos := "fail.go:46", after := #[{ on := 9, ground := Go.Ground.data }, { on := 7, ground := Go.Ground.data }, { on := 7, ground := Go.Ground.chain }, { on := 0, ground := Go.Ground.phase }, { on := 1, ground := Go.Ground.phase }, { on := 2, ground := Go.Ground.phase }, { on := 3, ground := Go.Ground.phase }, { on := 4, ground := Go.Ground.phase }, { on := 5, ground := Go.Ground.phase }, { on := 6, ground := Go.Ground.phase }, { on := 7, ground := Go.Ground.phase }], guard := none }) rfl (fun K hK => ?str9a0_50_0) AllReadyH.nil
          go_simp
          refine hK.out _ _ ?hsr9a0_50_0 (fun hHeld => ?rer9a0_50_0)
          case hsr9a0_50_0 => exact H9.out.2.2.2
          clear hK K
          try simp only [Act.put, List.setIfInBounds_toArray, List.set_cons_zero, List.set_cons_succ]
          refine wpAnyH_done (by kernel_rfl) ?dnr9a0_51 _
          gi_wp2
          have L9 := (WE.out (.cells #[.int .i64 (q : Int)] 3)).setOd (.slice (some ⟨g9, 0, none⟩) (s1.od.length + 1) cap9) (s1.od ++ [(q : Int)]) H9.out.2.1 (by rw [List.length_append, show encI (s1.od ++ [(q : Int)]) = encI s1.od ++ [.int .i64 (q : Int)] by simp [encI, encs]]; exact H9.out.1) (by rcases H9.out.2.2.1 with h_ | h_; exact .inl h_.symm; exact .inr ⟨g9, rfl, by rw [h_]; exact Nat.le_refl _⟩)
          have KO9 := ((HK8.out.1.trans (keepsO (((Grows.refl W8).alloc (.cells #[.int .i64 (q : Int)] 3)).drewN 1).below)).trans (KeepsOthers.of_grownBy H9.out.2.1 (fun j o e_ ho_ => by rcases (WE.out (.cells #[.int .i64 (q : Int)] 3)).od.2 with ⟨h_1, _⟩ | ⟨g_, c_, u_, h_1, _, h_2, _⟩; (rw [h_1] at e_; cases e_); (rw [h_1] at e_; simp [Value.ownBlock] at e_; subst e_; obtain rfl := Option.some.inj (h_2.symm.trans ho_); rfl)))).trans (KeepsOthers.setCell w9 ⟨p, 3, none⟩ (.slice (some ⟨g9, 0, none⟩) (s1.od.length + 1) cap9))
          have b19 := cell_set_far (p := ⟨p, 3, none⟩) (u := .slice (some ⟨g9, 0, none⟩) (s1.od.length + 1) cap9) ((H9.out.2.1.cell_far _ (World.block_lt_of_cell? _ _ (cell_grows (((Grows.refl W8).alloc (.cells #[.int .i64 (q : Int)] 3)).drewN 1) HK8.out.2.1)) (fun e_ => (HW9.out _ e_.symm).2 rfl)).trans (cell_grows (((Grows.refl W8).alloc (.cells #[.int .i64 (q : Int)] 3)).drewN 1) HK8.out.2.1)) (show w.heap.size + 1 ≠ p by omega)
          refine ⟨KO9.from _, below_between HB.out.2.2.2.1.bw L9.bw KO9.size, s2, (.slice (some ⟨g9, 0, none⟩) (s1.od.length + 1) cap9), ?_, HB.out.2.2.2.2.2.2.2.1, ?_, ?_, H9.out.2.2.2, b19, Nat.le_trans HB.out.2.2.2.2.1 KO9.size, ?_⟩
          · rw [List.map_append, List.map_singleton, visitL_snoc, HB.out.1]; exact HB.out.2.2.2.2.2.2.1
          · rw [HB.out.2.2.2.2.2.2.2.2.1, List.length_append, HB.out.2.2.1, List.length_append]; simp; omega
          · rw [HK8.out.2.2.2]; exact L9
          · intro k hk
            have hk' : g9 = k := by simpa [Value.ownBlock] using hk
            subst hk'
            rcases H9.out.2.2.1 with h_ | h_
            · exact HB.out.2.2.2.2.2.1 _ h_
            · refine .inr ?_
              rw [h_]
              exact Nat.le_trans HB.out.2.2.2.2.1 (Nat.le_trans HK8.out.1.size ((((Grows.refl W8).alloc (.cells #[.int .i64 (q : Int)] 3)).drewN 1).below.size))
        refine AllReadyH.cons (o := { dst := some 75, op := Go.Op.buildSlice 23 1 #[(0, Go.Operand.tmp 74)], type := 23, pos := "fail.go:46", after := #[{ on := 5, ground := Go.Ground.data }], guard := none }) rfl (fun K hK => ?str9a0_45_1) AllReadyH.nil
        go_simp
        refine hK.out _ _ ?hsr9a0_45_1 (fun hHeld => ?rer9a0_45_1)
        case hsr9a0_45_1 => exact b0a
        clear hK K
        try simp only [Act.put, List.setIfInBounds_toArray, List.set_cons_zero, List.set_cons_succ]
        refine wpAnyH_ready (rs := [4]) (by kernel_rfl) (by simp) ?rdr9a0_52
        refine AllReadyH.cons (o := { dst := some 73, op := Go.Op.load 23 (Go.Operand.tmp 72), type := 23, pos := "fail.go:46", after := #[{ on := 3, ground := Go.Ground.data }], guard := none }) rfl (fun K hK => ?str9a0_52_0) AllReadyH.nil
        go_simp
        refine hK.out _ _ ?hsr9a0_52_0 (fun hHeld => ?rer9a0_52_0)
        case hsr9a0_52_0 => exact b0a
        clear hK K
        try simp only [Act.put, List.setIfInBounds_toArray, List.set_cons_zero, List.set_cons_succ]
        refine wpAnyH_ready (rs := [7]) (by kernel_rfl) (by simp) ?rdr9a0_53
        refine AllReadyH.cons (o := { dst := some 76, op := Go.Op.call { callee := Go.Callee.builtin Go.Builtin.append, args := #[Go.Operand.tmp 73, Go.Operand.tmp 75], argTypes := #[23, 23] }, type := 23, pos := "fail.go:46", after := #[{ on := 4, ground := Go.Ground.data }, { on := 6, ground := Go.Ground.data }], guard := none }) rfl (fun K hK => ?str9a0_53_0) AllReadyH.nil
        refine step_append_lies _ rfl (.tmp 73) (.tmp 75) 23 rfl w0.heap.size 3 i0 (.int .i64 0) 1 8 Try.underlying23 HI0.out.1 HI0.out.2.1 HI0.out.2.2.1 HI0.out.2.2.2 rfl (by decide) vod1 s1.od.length (encI s1.od) (by simp [Act.eval, Act.put]) (WE.out _).od ⟨W8.heap.size, 0, none⟩ 1 1 [.int .i64 (q : Int)] (by simp [Act.eval, Act.put]) rfl (World.news_of_block (heap_alloc_new _ _)) (by simp [Value.oneCell']) (by decide) (by unfold maxLen; omega) (by omega) (WE.out _).bw.size _ rfl ?_
        intro g9 cap9 w9 ho9 hg9 hat9 hlt9
        have b9 := blk_grown (WE.out (.cells #[.int .i64 (q : Int)] 3)).blk hg9 (fun e_ => by rcases own_ne_blk (WE.out (.cells #[.int .i64 (q : Int)] 3)).od (WE.out (.cells #[.int .i64 (q : Int)] 3)).blk (by decide) with h_1 | h_1; (rw [h_1] at e_; cases e_); exact h_1 e_.symm)
        have k39 : w9.cell? ⟨p, 3, none⟩ = some vod1 := by rw [blk_cell b9]; rfl
        have z39 := blk_frozen b9 3
        have b09 : w9.cell? ⟨w.heap.size, 0, none⟩ = some (.pointer (some ⟨p, 0, none⟩)) := (hg9.cell_far _ (World.block_lt_of_cell? _ _ b0a) (fun e_ => (HW9.out _ e_.symm).1 rfl)).trans b0a
        have b0f := cell_set_far (p := ⟨p, 3, none⟩) (u := .slice (some ⟨g9, 0, none⟩) (s1.od.length + 1) cap9) b09 (show w.heap.size ≠ p by omega)
        have H9 := Aside0.mk (And.intro ho9 (And.intro hg9 (And.intro hat9 b0f)))
        clear ho9 hg9 hat9 b9 b0f
        refine hK.out _ _ ?hsr9a0_53_0 (fun hHeld => ?rer9a0_53_0)
        case hsr9a0_53_0 => exact b09
        clear hK K
        try simp only [Act.put, List.setIfInBounds_toArray, List.set_cons_zero, List.set_cons_succ]
        refine wpAnyH_take (i := 8) (oi := { dst := some 77, op := Go.Op.nilCheck (Go.Operand.tmp 69), type := 0, pos := "fail.go:46", after := #[{ on := 0, ground := Go.Ground.data }, { on := 0, ground := Go.Ground.phase }, { on := 1, ground := Go.Ground.phase }, { on := 2, ground := Go.Ground.phase }, { on := 3, ground := Go.Ground.phase }, { on := 4, ground := Go.Ground.phase }, { on := 5, ground := Go.Ground.phase }, { on := 6, ground := Go.Ground.phase }, { on := 7, ground := Go.Ground.phase }], guard := none }) (v := ?vr9a0_54) rfl (by kernel_rfl) (by kernel_rfl) (by kernel_rfl) (fun _ _ _ h => h) (Or.inl ⟨by rfl, ?hyr9a0_54⟩) (by assumption) ?rer9a0_54
        case hyr9a0_54 => (intro w hSw; (try dsimp only at hSw); go_simp; try with_reducible rfl)
        try simp only [Act.put, List.setIfInBounds_toArray, List.set_cons_zero, List.set_cons_succ]
        refine wpAnyH_take (i := 9) (oi := { dst := some 78, op := Go.Op.fieldAddr 99 (Go.Operand.tmp 77) 3, type := 0, pos := "fail.go:46", after := #[{ on := 8, ground := Go.Ground.data }, { on := 0, ground := Go.Ground.phase }, { on := 1, ground := Go.Ground.phase }, { on := 2, ground := Go.Ground.phase }, { on := 3, ground := Go.Ground.phase }, { on := 4, ground := Go.Ground.phase }, { on := 5, ground := Go.Ground.phase }, { on := 6, ground := Go.Ground.phase }, { on := 7, ground := Go.Ground.phase }], guard := none }) (v := ?vr9a0_55) rfl (by kernel_rfl) (by kernel_rfl) (by kernel_rfl) (fun _ _ _ h => h) (Or.inl ⟨by rfl, ?hyr9a0_55⟩) (by assumption) ?rer9a0_55
        case hyr9a0_55 => (intro w hSw; (try dsimp only at hSw); go_simp; try with_reducible rfl)
        try simp only [Act.put, List.setIfInBounds_toArray, List.set_cons_zero, List.set_cons_succ]
        refine wpAnyH_ready (rs := [10]) (by kernel_rfl) (by simp) ?rdr9a0_56
        refine AllReadyH.cons (o := { dst := none, op := Go.Op.store 23 (Go.Operand.tmp 78) (Go.Operand.tmp 76), type := 0, pos := "fail.go:46", after := #[{ on := 9, ground := Go.Ground.data }, { on := 7, ground := Go.Ground.data }, { on := 7, ground := Go.Ground.chain }, { on := 0, ground := Go.Ground.phase }, { on := 1, ground := Go.Ground.phase }, { on := 2, ground := Go.Ground.phase }, { on := 3, ground := Go.Ground.phase }, { on := 4, ground := Go.Ground.phase }, { on := 5, ground := Go.Ground.phase }, { on := 6, ground := Go.Ground.phase }, { on := 7, ground := Go.Ground.phase }], guard := none }) rfl (fun K hK => ?str9a0_56_0) AllReadyH.nil
        go_simp
        refine hK.out _ _ ?hsr9a0_56_0 (fun hHeld => ?rer9a0_56_0)
        case hsr9a0_56_0 => exact H9.out.2.2.2
        clear hK K
        try simp only [Act.put, List.setIfInBounds_toArray, List.set_cons_zero, List.set_cons_succ]
        refine wpAnyH_done (by kernel_rfl) ?dnr9a0_57 _
        gi_wp2
        have L9 := (WE.out (.cells #[.int .i64 (q : Int)] 3)).setOd (.slice (some ⟨g9, 0, none⟩) (s1.od.length + 1) cap9) (s1.od ++ [(q : Int)]) H9.out.2.1 (by rw [List.length_append, show encI (s1.od ++ [(q : Int)]) = encI s1.od ++ [.int .i64 (q : Int)] by simp [encI, encs]]; exact H9.out.1) (by rcases H9.out.2.2.1 with h_ | h_; exact .inl h_.symm; exact .inr ⟨g9, rfl, by rw [h_]; exact Nat.le_refl _⟩)
        have KO9 := ((HK8.out.1.trans (keepsO (((Grows.refl W8).alloc (.cells #[.int .i64 (q : Int)] 3)).drewN 1).below)).trans (KeepsOthers.of_grownBy H9.out.2.1 (fun j o e_ ho_ => by rcases (WE.out (.cells #[.int .i64 (q : Int)] 3)).od.2 with ⟨h_1, _⟩ | ⟨g_, c_, u_, h_1, _, h_2, _⟩; (rw [h_1] at e_; cases e_); (rw [h_1] at e_; simp [Value.ownBlock] at e_; subst e_; obtain rfl := Option.some.inj (h_2.symm.trans ho_); rfl)))).trans (KeepsOthers.setCell w9 ⟨p, 3, none⟩ (.slice (some ⟨g9, 0, none⟩) (s1.od.length + 1) cap9))
        have b19 := cell_set_far (p := ⟨p, 3, none⟩) (u := .slice (some ⟨g9, 0, none⟩) (s1.od.length + 1) cap9) ((H9.out.2.1.cell_far _ (World.block_lt_of_cell? _ _ (cell_grows (((Grows.refl W8).alloc (.cells #[.int .i64 (q : Int)] 3)).drewN 1) HK8.out.2.1)) (fun e_ => (HW9.out _ e_.symm).2 rfl)).trans (cell_grows (((Grows.refl W8).alloc (.cells #[.int .i64 (q : Int)] 3)).drewN 1) HK8.out.2.1)) (show w.heap.size + 1 ≠ p by omega)
        refine ⟨KO9.from _, below_between HB.out.2.2.2.1.bw L9.bw KO9.size, s2, (.slice (some ⟨g9, 0, none⟩) (s1.od.length + 1) cap9), ?_, HB.out.2.2.2.2.2.2.2.1, ?_, ?_, H9.out.2.2.2, b19, Nat.le_trans HB.out.2.2.2.2.1 KO9.size, ?_⟩
        · rw [List.map_append, List.map_singleton, visitL_snoc, HB.out.1]; exact HB.out.2.2.2.2.2.2.1
        · rw [HB.out.2.2.2.2.2.2.2.2.1, List.length_append, HB.out.2.2.1, List.length_append]; simp; omega
        · rw [HK8.out.2.2.2]; exact L9
        · intro k hk
          have hk' : g9 = k := by simpa [Value.ownBlock] using hk
          subst hk'
          rcases H9.out.2.2.1 with h_ | h_
          · exact HB.out.2.2.2.2.2.1 _ h_
          · refine .inr ?_
            rw [h_]
            exact Nat.le_trans HB.out.2.2.2.2.1 (Nat.le_trans HK8.out.1.size ((((Grows.refl W8).alloc (.cells #[.int .i64 (q : Int)] 3)).drewN 1).below.size))
    · rw [if_neg hn0] at hF
      have nb : ((n : Int) == 0) = false := by simp; omega
      have f1 := h4.flAt n hn
      have fq := h4.flAt q hqx
      have fz := h4.flz q
      by_cases hi : isNode s1.fl (atI s1.fl n) = true
      · rw [if_pos hi] at hF
        cases hgo : goF x s1.fl e.1.f0 K0 (atI s1.fl n) 1 with
        | none => rw [hgo] at hF; cases hF
        | some r =>
          rw [hgo] at hF
          have hr1 : r.1 = f := Option.some.inj hF
          have HGo := Aside0.mk (And.intro hgo (And.intro h4 hr1))
          clear hF hgo h4 hr1
          gi_wp2
          refine wpIn_region_held (S := fun w' => w'.cell? ⟨w.heap.size, 0, none⟩ = some (.pointer (some ⟨p, 0, none⟩)) ∧ w'.cell? ⟨w.heap.size + 1, 0, none⟩ = some (.int .i64 n) ∧ w'.cell? ⟨p, 1, none⟩ = some (.slice (some ⟨gf, 0, none⟩) x.length x.length) ∧ w'.cell? ⟨gf, n, none⟩ = some (.int .i64 (atI s1.fl n))) (by kernel_rfl) (by kernel_rfl) (by rintro ⟨a_, w_, h_⟩; exact h_) ?s0r5 (fun hHeld => ?b0r5)
          case s0r5 => exact ⟨h5, h6, e1, f1⟩
          refine wpAnyH_take (i := 0) (oi := { dst := some 17, op := Go.Op.load 52 (Go.Operand.tmp 2), type := 52, pos := "fail.go:40", after := #[], guard := none }) (v := ?vr5_58) rfl (by kernel_rfl) (by kernel_rfl) (by kernel_rfl) (fun _ _ _ h => h) (Or.inl ⟨by rfl, ?hyr5_58⟩) (by assumption) ?rer5_58
          case hyr5_58 => (intro w hSw; (try dsimp only at hSw); go_simp; try with_reducible rfl)
          try simp only [Act.put, List.setIfInBounds_toArray, List.set_cons_zero, List.set_cons_succ]
          refine wpAnyH_take (i := 1) (oi := { dst := some 18, op := Go.Op.nilCheck (Go.Operand.tmp 17), type := 0, pos := "fail.go:40", after := #[{ on := 0, ground := Go.Ground.data }], guard := none }) (v := ?vr5_59) rfl (by kernel_rfl) (by kernel_rfl) (by kernel_rfl) (fun _ _ _ h => h) (Or.inl ⟨by rfl, ?hyr5_59⟩) (by assumption) ?rer5_59
          case hyr5_59 => (intro w hSw; (try dsimp only at hSw); go_simp; try with_reducible rfl)
          try simp only [Act.put, List.setIfInBounds_toArray, List.set_cons_zero, List.set_cons_succ]
          refine wpAnyH_take (i := 2) (oi := { dst := some 19, op := Go.Op.fieldAddr 99 (Go.Operand.tmp 18) 1, type := 0, pos := "fail.go:40", after := #[{ on := 1, ground := Go.Ground.data }], guard := none }) (v := ?vr5_60) rfl (by kernel_rfl) (by kernel_rfl) (by kernel_rfl) (fun _ _ _ h => h) (Or.inl ⟨by rfl, ?hyr5_60⟩) (by assumption) ?rer5_60
          case hyr5_60 => (intro w hSw; (try dsimp only at hSw); go_simp; try with_reducible rfl)
          try simp only [Act.put, List.setIfInBounds_toArray, List.set_cons_zero, List.set_cons_succ]
          refine wpAnyH_take (i := 3) (oi := { dst := some 20, op := Go.Op.load 23 (Go.Operand.tmp 19), type := 23, pos := "fail.go:40", after := #[{ on := 2, ground := Go.Ground.data }], guard := none }) (v := ?vr5_61) rfl (by kernel_rfl) (by kernel_rfl) (by kernel_rfl) (fun _ _ _ h => h) (Or.inl ⟨by rfl, ?hyr5_61⟩) (by assumption) ?rer5_61
          case hyr5_61 => (intro w hSw; (try dsimp only at hSw); go_simp; try with_reducible rfl)
          try simp only [Act.put, List.setIfInBounds_toArray, List.set_cons_zero, List.set_cons_succ]
          refine wpAnyH_take (i := 4) (oi := { dst := some 21, op := Go.Op.move (Go.Operand.tmp 5), type := 3, pos := "fail.go:40", after := #[], guard := none }) (v := ?vr5_62) rfl (by kernel_rfl) (by kernel_rfl) (by kernel_rfl) (fun _ _ _ h => h) (Or.inl ⟨by rfl, ?hyr5_62⟩) (by assumption) ?rer5_62
          case hyr5_62 => (intro w hSw; (try dsimp only at hSw); go_simp; try with_reducible rfl)
          try simp only [Act.put, List.setIfInBounds_toArray, List.set_cons_zero, List.set_cons_succ]
          refine wpAnyH_take (i := 5) (oi := { dst := some 22, op := Go.Op.load 52 (Go.Operand.tmp 2), type := 52, pos := "fail.go:40", after := #[], guard := none }) (v := ?vr5_63) rfl (by kernel_rfl) (by kernel_rfl) (by kernel_rfl) (fun _ _ _ h => h) (Or.inl ⟨by rfl, ?hyr5_63⟩) (by assumption) ?rer5_63
          case hyr5_63 => (intro w hSw; (try dsimp only at hSw); go_simp; try with_reducible rfl)
          try simp only [Act.put, List.setIfInBounds_toArray, List.set_cons_zero, List.set_cons_succ]
          refine wpAnyH_take (i := 6) (oi := { dst := some 23, op := Go.Op.load 52 (Go.Operand.tmp 2), type := 52, pos := "fail.go:40", after := #[], guard := none }) (v := ?vr5_64) rfl (by kernel_rfl) (by kernel_rfl) (by kernel_rfl) (fun _ _ _ h => h) (Or.inl ⟨by rfl, ?hyr5_64⟩) (by assumption) ?rer5_64
          case hyr5_64 => (intro w hSw; (try dsimp only at hSw); go_simp; try with_reducible rfl)
          try simp only [Act.put, List.setIfInBounds_toArray, List.set_cons_zero, List.set_cons_succ]
          refine wpAnyH_take (i := 7) (oi := { dst := some 24, op := Go.Op.nilCheck (Go.Operand.tmp 23), type := 0, pos := "fail.go:40", after := #[{ on := 6, ground := Go.Ground.data }], guard := none }) (v := ?vr5_65) rfl (by kernel_rfl) (by kernel_rfl) (by kernel_rfl) (fun _ _ _ h => h) (Or.inl ⟨by rfl, ?hyr5_65⟩) (by assumption) ?rer5_65
          case hyr5_65 => (intro w hSw; (try dsimp only at hSw); go_simp; try with_reducible rfl)
          try simp only [Act.put, List.setIfInBounds_toArray, List.set_cons_zero, List.set_cons_succ]
          refine wpAnyH_take (i := 8) (oi := { dst := some 25, op := Go.Op.fieldAddr 99 (Go.Operand.tmp 24) 1, type := 0, pos := "fail.go:40", after := #[{ on := 7, ground := Go.Ground.data }], guard := none }) (v := ?vr5_66) rfl (by kernel_rfl) (by kernel_rfl) (by kernel_rfl) (fun _ _ _ h => h) (Or.inl ⟨by rfl, ?hyr5_66⟩) (by assumption) ?rer5_66
          case hyr5_66 => (intro w hSw; (try dsimp only at hSw); go_simp; try with_reducible rfl)
          try simp only [Act.put, List.setIfInBounds_toArray, List.set_cons_zero, List.set_cons_succ]
          refine wpAnyH_take (i := 9) (oi := { dst := some 26, op := Go.Op.load 23 (Go.Operand.tmp 25), type := 23, pos := "fail.go:40", after := #[{ on := 8, ground := Go.Ground.data }], guard := none }) (v := ?vr5_67) rfl (by kernel_rfl) (by kernel_rfl) (by kernel_rfl) (fun _ _ _ h => h) (Or.inl ⟨by rfl, ?hyr5_67⟩) (by assumption) ?rer5_67
          case hyr5_67 => (intro w hSw; (try dsimp only at hSw); go_simp; try with_reducible rfl)
          try simp only [Act.put, List.setIfInBounds_toArray, List.set_cons_zero, List.set_cons_succ]
          refine wpAnyH_take (i := 10) (oi := { dst := some 27, op := Go.Op.load 3 (Go.Operand.tmp 3), type := 3, pos := "fail.go:40", after := #[], guard := none }) (v := ?vr5_68) rfl (by kernel_rfl) (by kernel_rfl) (by kernel_rfl) (fun _ _ _ h => h) (Or.inl ⟨by rfl, ?hyr5_68⟩) (by assumption) ?rer5_68
          case hyr5_68 => (intro w hSw; (try dsimp only at hSw); go_simp; try with_reducible rfl)
          try simp only [Act.put, List.setIfInBounds_toArray, List.set_cons_zero, List.set_cons_succ]
          refine wpAnyH_take (i := 11) (oi := { dst := some 28, op := Go.Op.indexAddr 23 (Go.Operand.tmp 26) (Go.Operand.tmp 27), type := 0, pos := "fail.go:40", after := #[{ on := 9, ground := Go.Ground.data }, { on := 10, ground := Go.Ground.data }], guard := none }) (v := ?vr5_69) rfl (by kernel_rfl) (by kernel_rfl) (by kernel_rfl) (fun _ _ _ h => h) (Or.inl ⟨by rfl, ?hyr5_69⟩) (by assumption) ?rer5_69
          case hyr5_69 => (intro w hSw; (try dsimp only at hSw); go_simp; try with_reducible rfl)
          try simp only [Act.put, List.setIfInBounds_toArray, List.set_cons_zero, List.set_cons_succ]
          refine wpAnyH_take (i := 12) (oi := { dst := some 29, op := Go.Op.load 3 (Go.Operand.tmp 28), type := 3, pos := "fail.go:40", after := #[{ on := 11, ground := Go.Ground.data }], guard := none }) (v := ?vr5_70) rfl (by kernel_rfl) (by kernel_rfl) (by kernel_rfl) (fun _ _ _ h => h) (Or.inl ⟨by rfl, ?hyr5_70⟩) (by assumption) ?rer5_70
          case hyr5_70 => (intro w hSw; (try dsimp only at hSw); go_simp; try with_reducible rfl)
          try simp only [Act.put, List.setIfInBounds_toArray, List.set_cons_zero, List.set_cons_succ]
          refine wpAnyH_take (i := 13) (oi := { dst := some 30, op := Go.Op.move (Go.Operand.tmp 4), type := 3, pos := "fail.go:40", after := #[], guard := none }) (v := ?vr5_71) rfl (by kernel_rfl) (by kernel_rfl) (by kernel_rfl) (fun _ _ _ h => h) (Or.inl ⟨by rfl, ?hyr5_71⟩) (by assumption) ?rer5_71
          case hyr5_71 => (intro w hSw; (try dsimp only at hSw); go_simp; try with_reducible rfl)
          try simp only [Act.put, List.setIfInBounds_toArray, List.set_cons_zero, List.set_cons_succ]
          refine wpAnyH_ready (rs := [14]) (by kernel_rfl) (by simp) ?rdr5_72
          refine AllReadyH.cons (o := { dst := some 31, op := Go.Op.call { callee := Go.Callee.value (Go.Operand.func 39), args := #[Go.Operand.tmp 22, Go.Operand.tmp 29, Go.Operand.tmp 30], argTypes := #[52, 3, 3] }, type := 55, pos := "fail.go:40", after := #[{ on := 5, ground := Go.Ground.data }, { on := 12, ground := Go.Ground.data }, { on := 13, ground := Go.Ground.data }], guard := none }) rfl (fun K hK => ?str5_72_0) AllReadyH.nil
          go_simp
          go_at_call 39
          refine (go_calls ⟨p, 0, none⟩ t x s1.fl s1.ol (atI s1.fl n) e.1.f0 K0 r _ (HGo.out.2.1.grows ((Grows.refl W).drewN 1)).links HI.out.2.2.2.1 (by have := HI.out.2.2.2.2.2.1; omega) (fun _ => HGo.out.1) (fun h => by rw [hi] at h; cases h)).mono ?_
          rintro ee w5 ⟨rfl, hg5⟩
          have h45 := (HGo.out.2.1.grows ((Grows.refl W).drewN 1)).grows hg5
          rw [HGo.out.2.2]
          have fq5 := h45.flAt q hqx
          have fz5 := h45.flz q
          have e15 := h45.c1
          have b05 := cell_grows hg5 h5
          have b15 := cell_grows hg5 h6
          have fn5 := h45.flAt n hn
          have L5' := h45.setFl q f
          have fn6 := L5'.flAt n hn
          rw [show atI (s1.fl.set q (f : Int)) n = atI s1.fl n from atI_set_ne HN.out.1] at fn6
          have b06 := cell_set_far (p := ⟨gf, q, none⟩) (u := .int .i64 f) b05 (show w.heap.size ≠ gf by have := HN.out.2.1; omega)
          have b16 := cell_set_far (p := ⟨gf, q, none⟩) (u := .int .i64 f) b15 (show w.heap.size + 1 ≠ gf by have := HN.out.2.1; omega)
          have S5 := Aside0.mk (And.intro b06 (And.intro b16 (And.intro L5'.c1 fn6)))
          have KO5 : KeepsOthers W (w5.setCell ⟨gf, q, none⟩ (.int .i64 f)) := (keepsO (((Grows.refl W).drewN 1).trans hg5).below).trans (KeepsOthers.setCell _ ⟨gf, q, none⟩ _)
          have H45 := Aside0.mk (And.intro L5' KO5)
          clear h45 hg5 L5' fn6 b06 b16 KO5
          refine hK.out _ _ ?hsr5_72_0 (fun hHeld => ?rer5_72_0)
          case hsr5_72_0 => exact ⟨b05, b15, e15, fn5⟩
          clear hK K
          try simp only [Act.put, List.setIfInBounds_toArray, List.set_cons_zero, List.set_cons_succ]
          refine wpAnyH_take (i := 15) (oi := { dst := some 16, op := Go.Op.move (Go.Operand.tmp 31), type := 55, pos := "fail.go:40", after := #[{ on := 14, ground := Go.Ground.data }], guard := none }) (v := ?vr5_73) rfl (by kernel_rfl) (by kernel_rfl) (by kernel_rfl) (fun _ _ _ h => h) (Or.inl ⟨by rfl, ?hyr5_73⟩) (by assumption) ?rer5_73
          case hyr5_73 => (intro w hSw; (try dsimp only at hSw); go_simp; try with_reducible rfl)
          try simp only [Act.put, List.setIfInBounds_toArray, List.set_cons_zero, List.set_cons_succ]
          refine wpAnyH_take (i := 16) (oi := { dst := some 32, op := Go.Op.extract (Go.Operand.tmp 16) 0, type := 3, pos := "fail.go:40", after := #[{ on := 15, ground := Go.Ground.data }], guard := none }) (v := ?vr5_74) rfl (by kernel_rfl) (by kernel_rfl) (by kernel_rfl) (fun _ _ _ h => h) (Or.inl ⟨by rfl, ?hyr5_74⟩) (by assumption) ?rer5_74
          case hyr5_74 => (intro w hSw; (try dsimp only at hSw); go_simp; try with_reducible rfl)
          try simp only [Act.put, List.setIfInBounds_toArray, List.set_cons_zero, List.set_cons_succ]
          refine wpAnyH_take (i := 17) (oi := { dst := some 33, op := Go.Op.extract (Go.Operand.tmp 16) 1, type := 3, pos := "fail.go:40", after := #[{ on := 15, ground := Go.Ground.data }, { on := 19, ground := Go.Ground.gcOnly Go.Departure.lateStores }], guard := none }) (v := ?vr5_75) rfl (by kernel_rfl) (by kernel_rfl) (by kernel_rfl) (fun _ _ _ h => h) (Or.inl ⟨by rfl, ?hyr5_75⟩) (by assumption) ?rer5_75
          case hyr5_75 => (intro w hSw; (try dsimp only at hSw); go_simp; try with_reducible rfl)
          try simp only [Act.put, List.setIfInBounds_toArray, List.set_cons_zero, List.set_cons_succ]
          refine wpAnyH_take (i := 18) (oi := { dst := some 34, op := Go.Op.indexAddr 23 (Go.Operand.tmp 20) (Go.Operand.tmp 21), type := 0, pos := "fail.go:40", after := #[{ on := 3, ground := Go.Ground.data }, { on := 4, ground := Go.Ground.data }, { on := 0, ground := Go.Ground.phase }, { on := 1, ground := Go.Ground.phase }, { on := 2, ground := Go.Ground.phase }, { on := 3, ground := Go.Ground.phase }, { on := 4, ground := Go.Ground.phase }, { on := 5, ground := Go.Ground.phase }, { on := 6, ground := Go.Ground.phase }, { on := 7, ground := Go.Ground.phase }, { on := 8, ground := Go.Ground.phase }, { on := 9, ground := Go.Ground.phase }, { on := 10, ground := Go.Ground.phase }, { on := 11, ground := Go.Ground.phase }, { on := 12, ground := Go.Ground.phase }, { on := 13, ground := Go.Ground.phase }, { on := 14, ground := Go.Ground.phase }, { on := 15, ground := Go.Ground.phase }, { on := 16, ground := Go.Ground.phase }, { on := 17, ground := Go.Ground.textOnly Go.Departure.lateStores }], guard := none }) (v := ?vr5_76) rfl (by kernel_rfl) (by kernel_rfl) (by kernel_rfl) (fun _ _ _ h => h) (Or.inl ⟨by rfl, ?hyr5_76⟩) (by assumption) ?rer5_76
          case hyr5_76 => (intro w hSw; (try dsimp only at hSw); go_simp; try with_reducible rfl)
          try simp only [Act.put, List.setIfInBounds_toArray, List.set_cons_zero, List.set_cons_succ]
          refine wpAnyH_ready (rs := [19]) (by kernel_rfl) (by simp) ?rdr5_77
          refine AllReadyH.cons (o := { dst := none, op := Go.Op.store 3 (Go.Operand.tmp 34) (Go.Operand.tmp 32), type := 0, pos := "fail.go:40", after := #[{ on := 18, ground := Go.Ground.data }, { on := 16, ground := Go.Ground.data }, { on := 14, ground := Go.Ground.chain }, { on := 0, ground := Go.Ground.phase }, { on := 1, ground := Go.Ground.phase }, { on := 2, ground := Go.Ground.phase }, { on := 3, ground := Go.Ground.phase }, { on := 4, ground := Go.Ground.phase }, { on := 5, ground := Go.Ground.phase }, { on := 6, ground := Go.Ground.phase }, { on := 7, ground := Go.Ground.phase }, { on := 8, ground := Go.Ground.phase }, { on := 9, ground := Go.Ground.phase }, { on := 10, ground := Go.Ground.phase }, { on := 11, ground := Go.Ground.phase }, { on := 12, ground := Go.Ground.phase }, { on := 13, ground := Go.Ground.phase }, { on := 14, ground := Go.Ground.phase }, { on := 15, ground := Go.Ground.phase }, { on := 16, ground := Go.Ground.phase }, { on := 17, ground := Go.Ground.textOnly Go.Departure.lateStores }], guard := none }) rfl (fun K hK => ?str5_77_0) AllReadyH.nil
          go_simp
          refine hK.out _ _ ?hsr5_77_0 (fun hHeld => ?rer5_77_0)
          case hsr5_77_0 => exact S5.out
          clear hK K
          try simp only [Act.put, List.setIfInBounds_toArray, List.set_cons_zero, List.set_cons_succ]
          refine wpAnyH_done (by kernel_rfl) ?dnr5_78 _
          obtain ⟨W5, hW5⟩ : ∃ W5, W5 = w5.setCell ⟨gf, q, none⟩ (.int .i64 (f : Int)) := ⟨_, rfl⟩
          have S5' := S5.out
          obtain ⟨L5', KO5⟩ := H45.out
          rw [← hW5] at S5' L5' KO5
          rw [← hW5]
          obtain ⟨b07, b17, -, -⟩ := S5'
          clear b05 b15 fq5 fz5 e15 fn5 hW5 h5 h6 e1 f1 fq fz
          have b05 := b07
          have b15 := b17
          have HL5 := Aside0.mk L5'
          clear L5' b07 b17
          gi_wp2
          have L5 := HL5.out
          have m1 := L5.flAt q hqx
          have m2 := L5.olAt f hfx
          have m3 := L5.olAt q hqx
          have m4 := L5.olz q
          have m5 := L5.c1
          have m6 := L5.c2
          rw [show atI (s1.fl.set q (f : Int)) q = (f : Int) from atI_set_self (by rw [hFl]; exact hqx)] at m1
          have L6 := L5.setOl q (atI s1.ol f)
          have HL6 := Aside0.mk (And.intro L5 L6)
          have hv6 : atI (s1.ol.set q (atI s1.ol f)) f = atI s1.ol f := by
            by_cases hqf : q = f
            · rw [← hqf]; exact atI_set_self (by rw [HB.out.2.2.2.1.oll]; exact hqx)
            · exact atI_set_ne hqf
          have m7 := L6.flAt q hqx
          rw [show atI (s1.fl.set q (f : Int)) q = (f : Int) from atI_set_self (by rw [hFl]; exact hqx)] at m7
          have m8 := L6.olAt f hfx
          rw [hv6] at m8
          have S6 := Aside0.mk (And.intro (cell_set_far (p := ⟨go, q, none⟩) (u := .int .i64 (atI s1.ol f)) b05 (show w.heap.size ≠ go by have := HN.out.2.2.1; omega)) (And.intro L6.c2 (And.intro L6.c1 (And.intro m7 m8))))
          clear L5 L6 hv6 m7 m8
          refine wpIn_region_held (S := fun w' => w'.cell? ⟨w.heap.size, 0, none⟩ = some (.pointer (some ⟨p, 0, none⟩)) ∧ w'.cell? ⟨p, 2, none⟩ = some (.slice (some ⟨go, 0, none⟩) x.length x.length) ∧ w'.cell? ⟨p, 1, none⟩ = some (.slice (some ⟨gf, 0, none⟩) x.length x.length) ∧ w'.cell? ⟨gf, q, none⟩ = some (.int .i64 f) ∧ w'.cell? ⟨go, f, none⟩ = some (.int .i64 (atI s1.ol f))) (by kernel_rfl) (by kernel_rfl) (by rintro ⟨a_, w_, h_⟩; exact h_) ?s0r6b (fun hHeld => ?b0r6b)
          case s0r6b => exact ⟨b05, m6, m5, m1, m2⟩
          refine wpAnyH_take (i := 0) (oi := { dst := some 35, op := Go.Op.load 52 (Go.Operand.tmp 2), type := 52, pos := "fail.go:42", after := #[], guard := none }) (v := ?vr6b_79) rfl (by kernel_rfl) (by kernel_rfl) (by kernel_rfl) (fun _ _ _ h => h) (Or.inl ⟨by rfl, ?hyr6b_79⟩) (by assumption) ?rer6b_79
          case hyr6b_79 => (intro w hSw; (try dsimp only at hSw); go_simp; try with_reducible rfl)
          try simp only [Act.put, List.setIfInBounds_toArray, List.set_cons_zero, List.set_cons_succ]
          refine wpAnyH_take (i := 1) (oi := { dst := some 36, op := Go.Op.nilCheck (Go.Operand.tmp 35), type := 0, pos := "fail.go:42", after := #[{ on := 0, ground := Go.Ground.data }], guard := none }) (v := ?vr6b_80) rfl (by kernel_rfl) (by kernel_rfl) (by kernel_rfl) (fun _ _ _ h => h) (Or.inl ⟨by rfl, ?hyr6b_80⟩) (by assumption) ?rer6b_80
          case hyr6b_80 => (intro w hSw; (try dsimp only at hSw); go_simp; try with_reducible rfl)
          try simp only [Act.put, List.setIfInBounds_toArray, List.set_cons_zero, List.set_cons_succ]
          refine wpAnyH_take (i := 2) (oi := { dst := some 37, op := Go.Op.fieldAddr 99 (Go.Operand.tmp 36) 2, type := 0, pos := "fail.go:42", after := #[{ on := 1, ground := Go.Ground.data }], guard := none }) (v := ?vr6b_81) rfl (by kernel_rfl) (by kernel_rfl) (by kernel_rfl) (fun _ _ _ h => h) (Or.inl ⟨by rfl, ?hyr6b_81⟩) (by assumption) ?rer6b_81
          case hyr6b_81 => (intro w hSw; (try dsimp only at hSw); go_simp; try with_reducible rfl)
          try simp only [Act.put, List.setIfInBounds_toArray, List.set_cons_zero, List.set_cons_succ]
          refine wpAnyH_take (i := 3) (oi := { dst := some 38, op := Go.Op.load 23 (Go.Operand.tmp 37), type := 23, pos := "fail.go:42", after := #[{ on := 2, ground := Go.Ground.data }], guard := none }) (v := ?vr6b_82) rfl (by kernel_rfl) (by kernel_rfl) (by kernel_rfl) (fun _ _ _ h => h) (Or.inl ⟨by rfl, ?hyr6b_82⟩) (by assumption) ?rer6b_82
          case hyr6b_82 => (intro w hSw; (try dsimp only at hSw); go_simp; try with_reducible rfl)
          try simp only [Act.put, List.setIfInBounds_toArray, List.set_cons_zero, List.set_cons_succ]
          refine wpAnyH_take (i := 4) (oi := { dst := some 39, op := Go.Op.move (Go.Operand.tmp 5), type := 3, pos := "fail.go:42", after := #[], guard := none }) (v := ?vr6b_83) rfl (by kernel_rfl) (by kernel_rfl) (by kernel_rfl) (fun _ _ _ h => h) (Or.inl ⟨by rfl, ?hyr6b_83⟩) (by assumption) ?rer6b_83
          case hyr6b_83 => (intro w hSw; (try dsimp only at hSw); go_simp; try with_reducible rfl)
          try simp only [Act.put, List.setIfInBounds_toArray, List.set_cons_zero, List.set_cons_succ]
          refine wpAnyH_take (i := 5) (oi := { dst := some 40, op := Go.Op.load 52 (Go.Operand.tmp 2), type := 52, pos := "fail.go:42", after := #[], guard := none }) (v := ?vr6b_84) rfl (by kernel_rfl) (by kernel_rfl) (by kernel_rfl) (fun _ _ _ h => h) (Or.inl ⟨by rfl, ?hyr6b_84⟩) (by assumption) ?rer6b_84
          case hyr6b_84 => (intro w hSw; (try dsimp only at hSw); go_simp; try with_reducible rfl)
          try simp only [Act.put, List.setIfInBounds_toArray, List.set_cons_zero, List.set_cons_succ]
          refine wpAnyH_take (i := 6) (oi := { dst := some 41, op := Go.Op.nilCheck (Go.Operand.tmp 40), type := 0, pos := "fail.go:42", after := #[{ on := 5, ground := Go.Ground.data }], guard := none }) (v := ?vr6b_85) rfl (by kernel_rfl) (by kernel_rfl) (by kernel_rfl) (fun _ _ _ h => h) (Or.inl ⟨by rfl, ?hyr6b_85⟩) (by assumption) ?rer6b_85
          case hyr6b_85 => (intro w hSw; (try dsimp only at hSw); go_simp; try with_reducible rfl)
          try simp only [Act.put, List.setIfInBounds_toArray, List.set_cons_zero, List.set_cons_succ]
          refine wpAnyH_take (i := 7) (oi := { dst := some 42, op := Go.Op.fieldAddr 99 (Go.Operand.tmp 41) 2, type := 0, pos := "fail.go:42", after := #[{ on := 6, ground := Go.Ground.data }], guard := none }) (v := ?vr6b_86) rfl (by kernel_rfl) (by kernel_rfl) (by kernel_rfl) (fun _ _ _ h => h) (Or.inl ⟨by rfl, ?hyr6b_86⟩) (by assumption) ?rer6b_86
          case hyr6b_86 => (intro w hSw; (try dsimp only at hSw); go_simp; try with_reducible rfl)
          try simp only [Act.put, List.setIfInBounds_toArray, List.set_cons_zero, List.set_cons_succ]
          refine wpAnyH_take (i := 8) (oi := { dst := some 43, op := Go.Op.load 23 (Go.Operand.tmp 42), type := 23, pos := "fail.go:42", after := #[{ on := 7, ground := Go.Ground.data }], guard := none }) (v := ?vr6b_87) rfl (by kernel_rfl) (by kernel_rfl) (by kernel_rfl) (fun _ _ _ h => h) (Or.inl ⟨by rfl, ?hyr6b_87⟩) (by assumption) ?rer6b_87
          case hyr6b_87 => (intro w hSw; (try dsimp only at hSw); go_simp; try with_reducible rfl)
          try simp only [Act.put, List.setIfInBounds_toArray, List.set_cons_zero, List.set_cons_succ]
          refine wpAnyH_take (i := 9) (oi := { dst := some 44, op := Go.Op.load 52 (Go.Operand.tmp 2), type := 52, pos := "fail.go:42", after := #[], guard := none }) (v := ?vr6b_88) rfl (by kernel_rfl) (by kernel_rfl) (by kernel_rfl) (fun _ _ _ h => h) (Or.inl ⟨by rfl, ?hyr6b_88⟩) (by assumption) ?rer6b_88
          case hyr6b_88 => (intro w hSw; (try dsimp only at hSw); go_simp; try with_reducible rfl)
          try simp only [Act.put, List.setIfInBounds_toArray, List.set_cons_zero, List.set_cons_succ]
          refine wpAnyH_take (i := 10) (oi := { dst := some 45, op := Go.Op.nilCheck (Go.Operand.tmp 44), type := 0, pos := "fail.go:42", after := #[{ on := 9, ground := Go.Ground.data }], guard := none }) (v := ?vr6b_89) rfl (by kernel_rfl) (by kernel_rfl) (by kernel_rfl) (fun _ _ _ h => h) (Or.inl ⟨by rfl, ?hyr6b_89⟩) (by assumption) ?rer6b_89
          case hyr6b_89 => (intro w hSw; (try dsimp only at hSw); go_simp; try with_reducible rfl)
          try simp only [Act.put, List.setIfInBounds_toArray, List.set_cons_zero, List.set_cons_succ]
          refine wpAnyH_take (i := 11) (oi := { dst := some 46, op := Go.Op.fieldAddr 99 (Go.Operand.tmp 45) 1, type := 0, pos := "fail.go:42", after := #[{ on := 10, ground := Go.Ground.data }], guard := none }) (v := ?vr6b_90) rfl (by kernel_rfl) (by kernel_rfl) (by kernel_rfl) (fun _ _ _ h => h) (Or.inl ⟨by rfl, ?hyr6b_90⟩) (by assumption) ?rer6b_90
          case hyr6b_90 => (intro w hSw; (try dsimp only at hSw); go_simp; try with_reducible rfl)
          try simp only [Act.put, List.setIfInBounds_toArray, List.set_cons_zero, List.set_cons_succ]
          refine wpAnyH_take (i := 12) (oi := { dst := some 47, op := Go.Op.load 23 (Go.Operand.tmp 46), type := 23, pos := "fail.go:42", after := #[{ on := 11, ground := Go.Ground.data }], guard := none }) (v := ?vr6b_91) rfl (by kernel_rfl) (by kernel_rfl) (by kernel_rfl) (fun _ _ _ h => h) (Or.inl ⟨by rfl, ?hyr6b_91⟩) (by assumption) ?rer6b_91
          case hyr6b_91 => (intro w hSw; (try dsimp only at hSw); go_simp; try with_reducible rfl)
          try simp only [Act.put, List.setIfInBounds_toArray, List.set_cons_zero, List.set_cons_succ]
          refine wpAnyH_take (i := 13) (oi := { dst := some 48, op := Go.Op.move (Go.Operand.tmp 5), type := 3, pos := "fail.go:42", after := #[], guard := none }) (v := ?vr6b_92) rfl (by kernel_rfl) (by kernel_rfl) (by kernel_rfl) (fun _ _ _ h => h) (Or.inl ⟨by rfl, ?hyr6b_92⟩) (by assumption) ?rer6b_92
          case hyr6b_92 => (intro w hSw; (try dsimp only at hSw); go_simp; try with_reducible rfl)
          try simp only [Act.put, List.setIfInBounds_toArray, List.set_cons_zero, List.set_cons_succ]
          refine wpAnyH_take (i := 14) (oi := { dst := some 49, op := Go.Op.indexAddr 23 (Go.Operand.tmp 47) (Go.Operand.tmp 48), type := 0, pos := "fail.go:42", after := #[{ on := 12, ground := Go.Ground.data }, { on := 13, ground := Go.Ground.data }], guard := none }) (v := ?vr6b_93) rfl (by kernel_rfl) (by kernel_rfl) (by kernel_rfl) (fun _ _ _ h => h) (Or.inl ⟨by rfl, ?hyr6b_93⟩) (by assumption) ?rer6b_93
          case hyr6b_93 => (intro w hSw; (try dsimp only at hSw); go_simp; try with_reducible rfl)
          try simp only [Act.put, List.setIfInBounds_toArray, List.set_cons_zero, List.set_cons_succ]
          refine wpAnyH_take (i := 15) (oi := { dst := some 50, op := Go.Op.load 3 (Go.Operand.tmp 49), type := 3, pos := "fail.go:42", after := #[{ on := 14, ground := Go.Ground.data }], guard := none }) (v := ?vr6b_94) rfl (by kernel_rfl) (by kernel_rfl) (by kernel_rfl) (fun _ _ _ h => h) (Or.inl ⟨by rfl, ?hyr6b_94⟩) (by assumption) ?rer6b_94
          case hyr6b_94 => (intro w hSw; (try dsimp only at hSw); go_simp; try with_reducible rfl)
          try simp only [Act.put, List.setIfInBounds_toArray, List.set_cons_zero, List.set_cons_succ]
          refine wpAnyH_take (i := 16) (oi := { dst := some 51, op := Go.Op.indexAddr 23 (Go.Operand.tmp 43) (Go.Operand.tmp 50), type := 0, pos := "fail.go:42", after := #[{ on := 8, ground := Go.Ground.data }, { on := 15, ground := Go.Ground.data }], guard := none }) (v := ?vr6b_95) rfl (by kernel_rfl) (by kernel_rfl) (by kernel_rfl) (fun _ _ _ h => h) (Or.inl ⟨by rfl, ?hyr6b_95⟩) (by assumption) ?rer6b_95
          case hyr6b_95 => (intro w hSw; (try dsimp only at hSw); go_simp; try with_reducible rfl)
          try simp only [Act.put, List.setIfInBounds_toArray, List.set_cons_zero, List.set_cons_succ]
          refine wpAnyH_take (i := 17) (oi := { dst := some 52, op := Go.Op.load 3 (Go.Operand.tmp 51), type := 3, pos := "fail.go:42", after := #[{ on := 16, ground := Go.Ground.data }], guard := none }) (v := ?vr6b_96) rfl (by kernel_rfl) (by kernel_rfl) (by kernel_rfl) (fun _ _ _ h => h) (Or.inl ⟨by rfl, ?hyr6b_96⟩) (by assumption) ?rer6b_96
          case hyr6b_96 => (intro w hSw; (try dsimp only at hSw); go_simp; try with_reducible rfl)
          try simp only [Act.put, List.setIfInBounds_toArray, List.set_cons_zero, List.set_cons_succ]
          refine wpAnyH_take (i := 18) (oi := { dst := some 53, op := Go.Op.indexAddr 23 (Go.Operand.tmp 38) (Go.Operand.tmp 39), type := 0, pos := "fail.go:42", after := #[{ on := 3, ground := Go.Ground.data }, { on := 4, ground := Go.Ground.data }, { on := 0, ground := Go.Ground.phase }, { on := 1, ground := Go.Ground.phase }, { on := 2, ground := Go.Ground.phase }, { on := 3, ground := Go.Ground.phase }, { on := 4, ground := Go.Ground.phase }, { on := 5, ground := Go.Ground.phase }, { on := 6, ground := Go.Ground.phase }, { on := 7, ground := Go.Ground.phase }, { on := 8, ground := Go.Ground.phase }, { on := 9, ground := Go.Ground.phase }, { on := 10, ground := Go.Ground.phase }, { on := 11, ground := Go.Ground.phase }, { on := 12, ground := Go.Ground.phase }, { on := 13, ground := Go.Ground.phase }, { on := 14, ground := Go.Ground.phase }, { on := 15, ground := Go.Ground.phase }, { on := 16, ground := Go.Ground.phase }, { on := 17, ground := Go.Ground.phase }], guard := none }) (v := ?vr6b_97) rfl (by kernel_rfl) (by kernel_rfl) (by kernel_rfl) (fun _ _ _ h => h) (Or.inl ⟨by rfl, ?hyr6b_97⟩) (by assumption) ?rer6b_97
          case hyr6b_97 => (intro w hSw; (try dsimp only at hSw); go_simp; try with_reducible rfl)
          try simp only [Act.put, List.setIfInBounds_toArray, List.set_cons_zero, List.set_cons_succ]
          refine wpAnyH_ready (rs := [19]) (by kernel_rfl) (by simp) ?rdr6b_98
          refine AllReadyH.cons (o := { dst := none, op := Go.Op.store 3 (Go.Operand.tmp 53) (Go.Operand.tmp 52), type := 0, pos := "fail.go:42", after := #[{ on := 18, ground := Go.Ground.data }, { on := 17, ground := Go.Ground.data }, { on := 0, ground := Go.Ground.phase }, { on := 1, ground := Go.Ground.phase }, { on := 2, ground := Go.Ground.phase }, { on := 3, ground := Go.Ground.phase }, { on := 4, ground := Go.Ground.phase }, { on := 5, ground := Go.Ground.phase }, { on := 6, ground := Go.Ground.phase }, { on := 7, ground := Go.Ground.phase }, { on := 8, ground := Go.Ground.phase }, { on := 9, ground := Go.Ground.phase }, { on := 10, ground := Go.Ground.phase }, { on := 11, ground := Go.Ground.phase }, { on := 12, ground := Go.Ground.phase }, { on := 13, ground := Go.Ground.phase }, { on := 14, ground := Go.Ground.phase }, { on := 15, ground := Go.Ground.phase }, { on := 16, ground := Go.Ground.phase }, { on := 17, ground := Go.Ground.phase }], guard := none }) rfl (fun K hK => ?str6b_98_0) AllReadyH.nil
          go_simp
          refine hK.out _ _ ?hsr6b_98_0 (fun hHeld => ?rer6b_98_0)
          case hsr6b_98_0 => exact S6.out
          clear hK K
          try simp only [Act.put, List.setIfInBounds_toArray, List.set_cons_zero, List.set_cons_succ]
          refine wpAnyH_done (by kernel_rfl) ?dnr6b_99 _
          obtain ⟨W6, hW6⟩ : ∃ W6, W6 = (W5.setCell ⟨go, q, none⟩ (.int .i64 (atI s1.ol f))).drew := ⟨_, rfl⟩
          rw [← hW6]
          have L6 : Lk w0 W6 p gf go x.length t x ⟨s1.fl.set q f, (s1.ol.set q (atI s1.ol f)), s1.od⟩ vod1 := by rw [hW6]; exact HL6.out.2.grows ((Grows.refl _).drewN 1)
          have b06 : W6.cell? ⟨w.heap.size, 0, none⟩ = some (.pointer (some ⟨p, 0, none⟩)) := by rw [hW6]; exact S6.out.1
          have b16 : W6.cell? ⟨w.heap.size + 1, 0, none⟩ = some (.int .i64 n) := by rw [hW6]; exact cell_set_far (p := ⟨go, q, none⟩) (u := (.int .i64 (atI s1.ol f))) b15 (show w.heap.size + 1 ≠ go by have := HN.out.2.2.1; omega)
          have KO6 : KeepsOthers W W6 := by rw [hW6]; exact (KO5.trans (KeepsOthers.setCell _ ⟨go, q, none⟩ (.int .i64 (atI s1.ol f)))).trans (keepsO ((Grows.refl _).drewN 1).below)
          have c06 := L6.c0
          have HL7 := Aside0.mk L6
          have HK6 := Aside0.mk (And.intro KO6 b16)
          clear L6 hW6 HL6 S6 KO6 b16 b15 KO5 m1 m2 m3 m4 m5 m6 H45 b05
          obtain ⟨n4, he4⟩ : ∃ n4, n4 = (nodeOf x (q : Int)).f4.length := ⟨_, rfl⟩
          by_cases hl4 : 0 < n4
          · have dl4 : (0 : Int) < (n4 : Int) := by omega
            skip
            have HE4 := Aside0.mk he4
            have HD4 := Aside0.mk hl4
            clear hl4 he4
            gi_wp2_with (refine ⟨trivial, ?_⟩; gi_at_call 89; refine (CallsIn.inRound l (callsIn_wide.2 (ends_calls t x q _ (HL7.out.tr.below HL7.out.bw) HI.out.2.2.2.1))).mono ?_; rintro ee w7 ⟨v7, rfl, hv7, hb7⟩; obtain ⟨A7, c7, e7⟩ := Kd.R_slice hv7; subst e7; rw [← HE4.out]; have h77 := HL7.out.below hb7; have b07 := cell_below hb7 b06; have d2 := h77.c2; have d3 := h77.olAt q hqx; have d4 := h77.olz q; have H77 := Aside0.mk (And.intro h77 hb7); clear hv7 hb7 h77)
            obtain ⟨W8, hW8⟩ : ∃ W8, W8 = (w7.setCell ⟨go, q, none⟩ (.int .i64 (q : Int))) := ⟨_, rfl⟩
            rw [← hW8]
            have L8 : Lk w0 W8 p gf go x.length t x ⟨s1.fl.set q f, (s1.ol.set q (q : Int)), s1.od⟩ vod1 := by rw [hW8]; have := H77.out.1.setOl q (q : Int); rw [List.set_set] at this; exact this
            have b08 : W8.cell? ⟨w.heap.size, 0, none⟩ = some (.pointer (some ⟨p, 0, none⟩)) := by rw [hW8]; exact cell_set_far (p := ⟨go, q, none⟩) b07 (show w.heap.size ≠ go by have := HN.out.2.2.1; omega)
            have b18 : W8.cell? ⟨w.heap.size + 1, 0, none⟩ = some (.int .i64 n) := by rw [hW8]; exact cell_set_far (p := ⟨go, q, none⟩) (cell_below H77.out.2 HK6.out.2) (show w.heap.size + 1 ≠ go by have := HN.out.2.2.1; omega)
            have KO8 : KeepsOthers W W8 := by rw [hW8]; exact (HK6.out.1.trans (keepsO H77.out.2)).trans (KeepsOthers.setCell _ ⟨go, q, none⟩ _)
            have hs8 : s2 = ⟨s1.fl.set q f, (s1.ol.set q (q : Int)), s1.od ++ [(q : Int)]⟩ := by
              have h_ := HB.out.2.2.2.2.2.2.2.2.2.1
              rw [← HE4.out] at h_
              rw [h_]
              rw [if_pos (by have := HD4.out; omega)]
            have WE := Aside0.mk (show ∀ o : Obj, Lk w0 ((W8.alloc o).drew) p gf go x.length t x _ vod1 from fun o => L8.grows (((Grows.refl W8).alloc o).drewN 1))
            have j3 := L8.c3
            have j3a : ((W8.alloc (.cells #[.int .i64 (q : Int)] 3)).drew).cell? ⟨p, 3, none⟩ = some vod1 := (WE.out _).c3
            have b0a : ((W8.alloc (.cells #[.int .i64 (q : Int)] 3)).drew).cell? ⟨w.heap.size, 0, none⟩ = some (.pointer (some ⟨p, 0, none⟩)) := cell_grows (((Grows.refl W8).alloc _).drewN 1) b08
            obtain ⟨i0, hi0, hz0, hs0, hb0⟩ := info_parts info3
            have HI0 := Aside0.mk (And.intro hi0 (And.intro hz0 (And.intro hs0 hb0)))
            have hod9 : s1.od.length + 1 ≤ 10000000001 := by have h_1 := HB.out.2.2.1; have h_2 := HI.out.2.2.2.2.2.2; have h_3 := HB.out.2.2.2.2.2.2.2.2.2.2.1; omega
            have HK8 := Aside0.mk (And.intro KO8 (And.intro b18 (And.intro L8 hs8)))
            have hw9 : ∀ k, vod1.ownBlock = some k → k ≠ w.heap.size ∧ k ≠ w.heap.size + 1 := fun k hk => by have h_1 := HB.out.2.2.2.2.2.1 k hk; have h_2 := HS.out; omega
            have HW9 := Aside0.mk hw9
            clear hi0 hz0 hs0 hb0 hW8 H77 HK6 L8 b18 KO8 hs8 hw9 d2 d3 d4 b07 b06 c06
            gi_wp2
            refine wpIn_region_held (S := fun w' => w'.cell? ⟨w.heap.size, 0, none⟩ = some (.pointer (some ⟨p, 0, none⟩))) (by kernel_rfl) (by kernel_rfl) (by rintro ⟨a_, w_, h_⟩; exact h_) ?s0r9b1 (fun hHeld => ?b0r9b1)
            case s0r9b1 => exact b08
            refine wpAnyH_take (i := 0) (oi := { dst := some 69, op := Go.Op.load 52 (Go.Operand.tmp 2), type := 52, pos := "fail.go:46", after := #[], guard := none }) (v := ?vr9b1_100) rfl (by kernel_rfl) (by kernel_rfl) (by kernel_rfl) (fun _ _ _ h => h) (Or.inl ⟨by rfl, ?hyr9b1_100⟩) (by assumption) ?rer9b1_100
            case hyr9b1_100 => (intro w hSw; (try dsimp only at hSw); go_simp; try with_reducible rfl)
            try simp only [Act.put, List.setIfInBounds_toArray, List.set_cons_zero, List.set_cons_succ]
            refine wpAnyH_take (i := 1) (oi := { dst := some 70, op := Go.Op.load 52 (Go.Operand.tmp 2), type := 52, pos := "fail.go:46", after := #[], guard := none }) (v := ?vr9b1_101) rfl (by kernel_rfl) (by kernel_rfl) (by kernel_rfl) (fun _ _ _ h => h) (Or.inl ⟨by rfl, ?hyr9b1_101⟩) (by assumption) ?rer9b1_101
            case hyr9b1_101 => (intro w hSw; (try dsimp only at hSw); go_simp; try with_reducible rfl)
            try simp only [Act.put, List.setIfInBounds_toArray, List.set_cons_zero, List.set_cons_succ]
            refine wpAnyH_take (i := 2) (oi := { dst := some 71, op := Go.Op.nilCheck (Go.Operand.tmp 70), type := 0, pos := "fail.go:46", after := #[{ on := 1, ground := Go.Ground.data }], guard := none }) (v := ?vr9b1_102) rfl (by kernel_rfl) (by kernel_rfl) (by kernel_rfl) (fun _ _ _ h => h) (Or.inl ⟨by rfl, ?hyr9b1_102⟩) (by assumption) ?rer9b1_102
            case hyr9b1_102 => (intro w hSw; (try dsimp only at hSw); go_simp; try with_reducible rfl)
            try simp only [Act.put, List.setIfInBounds_toArray, List.set_cons_zero, List.set_cons_succ]
            refine wpAnyH_take (i := 3) (oi := { dst := some 72, op := Go.Op.fieldAddr 99 (Go.Operand.tmp 71) 3, type := 0, pos := "fail.go:46", after := #[{ on := 2, ground := Go.Ground.data }], guard := none }) (v := ?vr9b1_103) rfl (by kernel_rfl) (by kernel_rfl) (by kernel_rfl) (fun _ _ _ h => h) (Or.inl ⟨by rfl, ?hyr9b1_103⟩) (by assumption) ?rer9b1_103
            case hyr9b1_103 => (intro w hSw; (try dsimp only at hSw); go_simp; try with_reducible rfl)
            try simp only [Act.put, List.setIfInBounds_toArray, List.set_cons_zero, List.set_cons_succ]
            refine wpAnyH_take (i := 5) (oi := { dst := some 74, op := Go.Op.move (Go.Operand.tmp 5), type := 3, pos := "fail.go:46", after := #[], guard := none }) (v := ?vr9b1_104) rfl (by kernel_rfl) (by kernel_rfl) (by kernel_rfl) (fun _ _ _ h => h) (Or.inl ⟨by rfl, ?hyr9b1_104⟩) (by assumption) ?rer9b1_104
            case hyr9b1_104 => (intro w hSw; (try dsimp only at hSw); go_simp; try with_reducible rfl)
            try simp only [Act.put, List.setIfInBounds_toArray, List.set_cons_zero, List.set_cons_succ]
            refine wpAnyH_ready (rs := [4, 6]) (by kernel_rfl) (by simp) ?rdr9b1_105
            refine AllReadyH.cons (o := { dst := some 73, op := Go.Op.load 23 (Go.Operand.tmp 72), type := 23, pos := "fail.go:46", after := #[{ on := 3, ground := Go.Ground.data }], guard := none }) rfl (fun K hK => ?str9b1_105_0) ?mor9b1_105_0
            case str9b1_105_0 =>
              go_simp
              refine hK.out _ _ ?hsr9b1_105_0 (fun hHeld => ?rer9b1_105_0)
              case hsr9b1_105_0 => exact b08
              clear hK K
              try simp only [Act.put, List.setIfInBounds_toArray, List.set_cons_zero, List.set_cons_succ]
              refine wpAnyH_ready (rs := [6]) (by kernel_rfl) (by simp) ?rdr9b1_106
              refine AllReadyH.cons (o := { dst := some 75, op := Go.Op.buildSlice 23 1 #[(0, Go.Operand.tmp 74)], type := 23, pos := "fail.go:46", after := #[{ on := 5, ground := Go.Ground.data }], guard := none }) rfl (fun K hK => ?str9b1_106_0) AllReadyH.nil
              go_simp
              refine hK.out _ _ ?hsr9b1_106_0 (fun hHeld => ?rer9b1_106_0)
              case hsr9b1_106_0 => exact b0a
              clear hK K
              try simp only [Act.put, List.setIfInBounds_toArray, List.set_cons_zero, List.set_cons_succ]
              refine wpAnyH_ready (rs := [7]) (by kernel_rfl) (by simp) ?rdr9b1_107
              refine AllReadyH.cons (o := { dst := some 76, op := Go.Op.call { callee := Go.Callee.builtin Go.Builtin.append, args := #[Go.Operand.tmp 73, Go.Operand.tmp 75], argTypes := #[23, 23] }, type := 23, pos := "fail.go:46", after := #[{ on := 4, ground := Go.Ground.data }, { on := 6, ground := Go.Ground.data }], guard := none }) rfl (fun K hK => ?str9b1_107_0) AllReadyH.nil
              refine step_append_lies _ rfl (.tmp 73) (.tmp 75) 23 rfl w0.heap.size 3 i0 (.int .i64 0) 1 8 Try.underlying23 HI0.out.1 HI0.out.2.1 HI0.out.2.2.1 HI0.out.2.2.2 rfl (by decide) vod1 s1.od.length (encI s1.od) (by simp [Act.eval, Act.put]) (WE.out _).od ⟨W8.heap.size, 0, none⟩ 1 1 [.int .i64 (q : Int)] (by simp [Act.eval, Act.put]) rfl (World.news_of_block (heap_alloc_new _ _)) (by simp [Value.oneCell']) (by decide) (by unfold maxLen; omega) (by omega) (WE.out _).bw.size _ rfl ?_
              intro g9 cap9 w9 ho9 hg9 hat9 hlt9
              have b9 := blk_grown (WE.out (.cells #[.int .i64 (q : Int)] 3)).blk hg9 (fun e_ => by rcases own_ne_blk (WE.out (.cells #[.int .i64 (q : Int)] 3)).od (WE.out (.cells #[.int .i64 (q : Int)] 3)).blk (by decide) with h_1 | h_1; (rw [h_1] at e_; cases e_); exact h_1 e_.symm)
              have k39 : w9.cell? ⟨p, 3, none⟩ = some vod1 := by rw [blk_cell b9]; rfl
              have z39 := blk_frozen b9 3
              have b09 : w9.cell? ⟨w.heap.size, 0, none⟩ = some (.pointer (some ⟨p, 0, none⟩)) := (hg9.cell_far _ (World.block_lt_of_cell? _ _ b0a) (fun e_ => (HW9.out _ e_.symm).1 rfl)).trans b0a
              have b0f := cell_set_far (p := ⟨p, 3, none⟩) (u := .slice (some ⟨g9, 0, none⟩) (s1.od.length + 1) cap9) b09 (show w.heap.size ≠ p by omega)
              have H9 := Aside0.mk (And.intro ho9 (And.intro hg9 (And.intro hat9 b0f)))
              clear ho9 hg9 hat9 b9 b0f
              refine hK.out _ _ ?hsr9b1_107_0 (fun hHeld => ?rer9b1_107_0)
              case hsr9b1_107_0 => exact b09
              clear hK K
              try simp only [Act.put, List.setIfInBounds_toArray, List.set_cons_zero, List.set_cons_succ]
              refine wpAnyH_take (i := 8) (oi := { dst := some 77, op := Go.Op.nilCheck (Go.Operand.tmp 69), type := 0, pos := "fail.go:46", after := #[{ on := 0, ground := Go.Ground.data }, { on := 0, ground := Go.Ground.phase }, { on := 1, ground := Go.Ground.phase }, { on := 2, ground := Go.Ground.phase }, { on := 3, ground := Go.Ground.phase }, { on := 4, ground := Go.Ground.phase }, { on := 5, ground := Go.Ground.phase }, { on := 6, ground := Go.Ground.phase }, { on := 7, ground := Go.Ground.phase }], guard := none }) (v := ?vr9b1_108) rfl (by kernel_rfl) (by kernel_rfl) (by kernel_rfl) (fun _ _ _ h => h) (Or.inl ⟨by rfl, ?hyr9b1_108⟩) (by assumption) ?rer9b1_108
              case hyr9b1_108 => (intro w hSw; (try dsimp only at hSw); go_simp; try with_reducible rfl)
              try simp only [Act.put, List.setIfInBounds_toArray, List.set_cons_zero, List.set_cons_succ]
              refine wpAnyH_take (i := 9) (oi := { dst := some 78, op := Go.Op.fieldAddr 99 (Go.Operand.tmp 77) 3, type := 0, pos := "fail.go:46", after := #[{ on := 8, ground := Go.Ground.data }, { on := 0, ground := Go.Ground.phase }, { on := 1, ground := Go.Ground.phase }, { on := 2, ground := Go.Ground.phase }, { on := 3, ground := Go.Ground.phase }, { on := 4, ground := Go.Ground.phase }, { on := 5, ground := Go.Ground.phase }, { on := 6, ground := Go.Ground.phase }, { on := 7, ground := Go.Ground.phase }], guard := none }) (v := ?vr9b1_109) rfl (by kernel_rfl) (by kernel_rfl) (by kernel_rfl) (fun _ _ _ h => h) (Or.inl ⟨by rfl, ?hyr9b1_109⟩) (by assumption) ?rer9b1_109
              case hyr9b1_109 => (intro w hSw; (try dsimp only at hSw); go_simp; try with_reducible rfl)
              try simp only [Act.put, List.setIfInBounds_toArray, List.set_cons_zero, List.set_cons_succ]
              refine wpAnyH_ready (rs := [10]) (by kernel_rfl) (by simp) ?rdr9b1_110
              refine AllReadyH.cons (o := { dst := none, op := Go.Op.store 23 (Go.Operand.tmp 78) (Go.Operand.tmp 76), type := 0, pos := "fail.go:46", after := #[{ on := 9, ground := Go.Ground.data }, { on := 7, ground := Go.Ground.data }, { on := 7, ground := Go.Ground.chain }, { on := 0, ground := Go.Ground.phase }, { on := 1, ground := Go.Ground.phase }, { on := 2, ground := Go.Ground.phase }, { on := 3, ground := Go.Ground.phase }, { on := 4, ground := Go.Ground.phase }, { on := 5, ground := Go.Ground.phase }, { on := 6, ground := Go.Ground.phase }, { on := 7, ground := Go.Ground.phase }], guard := none }) rfl (fun K hK => ?str9b1_110_0) AllReadyH.nil
              go_simp
              refine hK.out _ _ ?hsr9b1_110_0 (fun hHeld => ?rer9b1_110_0)
              case hsr9b1_110_0 => exact H9.out.2.2.2
              clear hK K
              try simp only [Act.put, List.setIfInBounds_toArray, List.set_cons_zero, List.set_cons_succ]
              refine wpAnyH_done (by kernel_rfl) ?dnr9b1_111 _
              gi_wp2
              have L9 := (WE.out (.cells #[.int .i64 (q : Int)] 3)).setOd (.slice (some ⟨g9, 0, none⟩) (s1.od.length + 1) cap9) (s1.od ++ [(q : Int)]) H9.out.2.1 (by rw [List.length_append, show encI (s1.od ++ [(q : Int)]) = encI s1.od ++ [.int .i64 (q : Int)] by simp [encI, encs]]; exact H9.out.1) (by rcases H9.out.2.2.1 with h_ | h_; exact .inl h_.symm; exact .inr ⟨g9, rfl, by rw [h_]; exact Nat.le_refl _⟩)
              have KO9 := ((HK8.out.1.trans (keepsO (((Grows.refl W8).alloc (.cells #[.int .i64 (q : Int)] 3)).drewN 1).below)).trans (KeepsOthers.of_grownBy H9.out.2.1 (fun j o e_ ho_ => by rcases (WE.out (.cells #[.int .i64 (q : Int)] 3)).od.2 with ⟨h_1, _⟩ | ⟨g_, c_, u_, h_1, _, h_2, _⟩; (rw [h_1] at e_; cases e_); (rw [h_1] at e_; simp [Value.ownBlock] at e_; subst e_; obtain rfl := Option.some.inj (h_2.symm.trans ho_); rfl)))).trans (KeepsOthers.setCell w9 ⟨p, 3, none⟩ (.slice (some ⟨g9, 0, none⟩) (s1.od.length + 1) cap9))
              have b19 := cell_set_far (p := ⟨p, 3, none⟩) (u := .slice (some ⟨g9, 0, none⟩) (s1.od.length + 1) cap9) ((H9.out.2.1.cell_far _ (World.block_lt_of_cell? _ _ (cell_grows (((Grows.refl W8).alloc (.cells #[.int .i64 (q : Int)] 3)).drewN 1) HK8.out.2.1)) (fun e_ => (HW9.out _ e_.symm).2 rfl)).trans (cell_grows (((Grows.refl W8).alloc (.cells #[.int .i64 (q : Int)] 3)).drewN 1) HK8.out.2.1)) (show w.heap.size + 1 ≠ p by omega)
              refine ⟨KO9.from _, below_between HB.out.2.2.2.1.bw L9.bw KO9.size, s2, (.slice (some ⟨g9, 0, none⟩) (s1.od.length + 1) cap9), ?_, HB.out.2.2.2.2.2.2.2.1, ?_, ?_, H9.out.2.2.2, b19, Nat.le_trans HB.out.2.2.2.2.1 KO9.size, ?_⟩
              · rw [List.map_append, List.map_singleton, visitL_snoc, HB.out.1]; exact HB.out.2.2.2.2.2.2.1
              · rw [HB.out.2.2.2.2.2.2.2.2.1, List.length_append, HB.out.2.2.1, List.length_append]; simp; omega
              · rw [HK8.out.2.2.2]; exact L9
              · intro k hk
                have hk' : g9 = k := by simpa [Value.ownBlock] using hk
                subst hk'
                rcases H9.out.2.2.1 with h_ | h_
                · exact HB.out.2.2.2.2.2.1 _ h_
                · refine .inr ?_
                  rw [h_]
                  exact Nat.le_trans HB.out.2.2.2.2.1 (Nat.le_trans HK8.out.1.size ((((Grows.refl W8).alloc (.cells #[.int .i64 (q : Int)] 3)).drewN 1).below.size))
            refine AllReadyH.cons (o := { dst := some 75, op := Go.Op.buildSlice 23 1 #[(0, Go.Operand.tmp 74)], type := 23, pos := "fail.go:46", after := #[{ on := 5, ground := Go.Ground.data }], guard := none }) rfl (fun K hK => ?str9b1_105_1) AllReadyH.nil
            go_simp
            refine hK.out _ _ ?hsr9b1_105_1 (fun hHeld => ?rer9b1_105_1)
            case hsr9b1_105_1 => exact b0a
            clear hK K
            try simp only [Act.put, List.setIfInBounds_toArray, List.set_cons_zero, List.set_cons_succ]
            refine wpAnyH_ready (rs := [4]) (by kernel_rfl) (by simp) ?rdr9b1_112
            refine AllReadyH.cons (o := { dst := some 73, op := Go.Op.load 23 (Go.Operand.tmp 72), type := 23, pos := "fail.go:46", after := #[{ on := 3, ground := Go.Ground.data }], guard := none }) rfl (fun K hK => ?str9b1_112_0) AllReadyH.nil
            go_simp
            refine hK.out _ _ ?hsr9b1_112_0 (fun hHeld => ?rer9b1_112_0)
            case hsr9b1_112_0 => exact b0a
            clear hK K
            try simp only [Act.put, List.setIfInBounds_toArray, List.set_cons_zero, List.set_cons_succ]
            refine wpAnyH_ready (rs := [7]) (by kernel_rfl) (by simp) ?rdr9b1_113
            refine AllReadyH.cons (o := { dst := some 76, op := Go.Op.call { callee := Go.Callee.builtin Go.Builtin.append, args := #[Go.Operand.tmp 73, Go.Operand.tmp 75], argTypes := #[23, 23] }, type := 23, pos := "fail.go:46", after := #[{ on := 4, ground := Go.Ground.data }, { on := 6, ground := Go.Ground.data }], guard := none }) rfl (fun K hK => ?str9b1_113_0) AllReadyH.nil
            refine step_append_lies _ rfl (.tmp 73) (.tmp 75) 23 rfl w0.heap.size 3 i0 (.int .i64 0) 1 8 Try.underlying23 HI0.out.1 HI0.out.2.1 HI0.out.2.2.1 HI0.out.2.2.2 rfl (by decide) vod1 s1.od.length (encI s1.od) (by simp [Act.eval, Act.put]) (WE.out _).od ⟨W8.heap.size, 0, none⟩ 1 1 [.int .i64 (q : Int)] (by simp [Act.eval, Act.put]) rfl (World.news_of_block (heap_alloc_new _ _)) (by simp [Value.oneCell']) (by decide) (by unfold maxLen; omega) (by omega) (WE.out _).bw.size _ rfl ?_
            intro g9 cap9 w9 ho9 hg9 hat9 hlt9
            have b9 := blk_grown (WE.out (.cells #[.int .i64 (q : Int)] 3)).blk hg9 (fun e_ => by rcases own_ne_blk (WE.out (.cells #[.int .i64 (q : Int)] 3)).od (WE.out (.cells #[.int .i64 (q : Int)] 3)).blk (by decide) with h_1 | h_1; (rw [h_1] at e_; cases e_); exact h_1 e_.symm)
            have k39 : w9.cell? ⟨p, 3, none⟩ = some vod1 := by rw [blk_cell b9]; rfl
            have z39 := blk_frozen b9 3
            have b09 : w9.cell? ⟨w.heap.size, 0, none⟩ = some (.pointer (some ⟨p, 0, none⟩)) := (hg9.cell_far _ (World.block_lt_of_cell? _ _ b0a) (fun e_ => (HW9.out _ e_.symm).1 rfl)).trans b0a
            have b0f := cell_set_far (p := ⟨p, 3, none⟩) (u := .slice (some ⟨g9, 0, none⟩) (s1.od.length + 1) cap9) b09 (show w.heap.size ≠ p by omega)
            have H9 := Aside0.mk (And.intro ho9 (And.intro hg9 (And.intro hat9 b0f)))
            clear ho9 hg9 hat9 b9 b0f
            refine hK.out _ _ ?hsr9b1_113_0 (fun hHeld => ?rer9b1_113_0)
            case hsr9b1_113_0 => exact b09
            clear hK K
            try simp only [Act.put, List.setIfInBounds_toArray, List.set_cons_zero, List.set_cons_succ]
            refine wpAnyH_take (i := 8) (oi := { dst := some 77, op := Go.Op.nilCheck (Go.Operand.tmp 69), type := 0, pos := "fail.go:46", after := #[{ on := 0, ground := Go.Ground.data }, { on := 0, ground := Go.Ground.phase }, { on := 1, ground := Go.Ground.phase }, { on := 2, ground := Go.Ground.phase }, { on := 3, ground := Go.Ground.phase }, { on := 4, ground := Go.Ground.phase }, { on := 5, ground := Go.Ground.phase }, { on := 6, ground := Go.Ground.phase }, { on := 7, ground := Go.Ground.phase }], guard := none }) (v := ?vr9b1_114) rfl (by kernel_rfl) (by kernel_rfl) (by kernel_rfl) (fun _ _ _ h => h) (Or.inl ⟨by rfl, ?hyr9b1_114⟩) (by assumption) ?rer9b1_114
            case hyr9b1_114 => (intro w hSw; (try dsimp only at hSw); go_simp; try with_reducible rfl)
            try simp only [Act.put, List.setIfInBounds_toArray, List.set_cons_zero, List.set_cons_succ]
            refine wpAnyH_take (i := 9) (oi := { dst := some 78, op := Go.Op.fieldAddr 99 (Go.Operand.tmp 77) 3, type := 0, pos := "fail.go:46", after := #[{ on := 8, ground := Go.Ground.data }, { on := 0, ground := Go.Ground.phase }, { on := 1, ground := Go.Ground.phase }, { on := 2, ground := Go.Ground.phase }, { on := 3, ground := Go.Ground.phase }, { on := 4, ground := Go.Ground.phase }, { on := 5, ground := Go.Ground.phase }, { on := 6, ground := Go.Ground.phase }, { on := 7, ground := Go.Ground.phase }], guard := none }) (v := ?vr9b1_115) rfl (by kernel_rfl) (by kernel_rfl) (by kernel_rfl) (fun _ _ _ h => h) (Or.inl ⟨by rfl, ?hyr9b1_115⟩) (by assumption) ?rer9b1_115
            case hyr9b1_115 => (intro w hSw; (try dsimp only at hSw); go_simp; try with_reducible rfl)
            try simp only [Act.put, List.setIfInBounds_toArray, List.set_cons_zero, List.set_cons_succ]
            refine wpAnyH_ready (rs := [10]) (by kernel_rfl) (by simp) ?rdr9b1_116
            refine AllReadyH.cons (o := { dst := none, op := Go.Op.store 23 (Go.Operand.tmp 78) (Go.Operand.tmp 76), type := 0, pos := "fail.go:46", after := #[{ on := 9, ground := Go.Ground.data }, { on := 7, ground := Go.Ground.data }, { on := 7, ground := Go.Ground.chain }, { on := 0, ground := Go.Ground.phase }, { on := 1, ground := Go.Ground.phase }, { on := 2, ground := Go.Ground.phase }, { on := 3, ground := Go.Ground.phase }, { on := 4, ground := Go.Ground.phase }, { on := 5, ground := Go.Ground.phase }, { on := 6, ground := Go.Ground.phase }, { on := 7, ground := Go.Ground.phase }], guard := none }) rfl (fun K hK => ?str9b1_116_0) AllReadyH.nil
            go_simp
            refine hK.out _ _ ?hsr9b1_116_0 (fun hHeld => ?rer9b1_116_0)
            case hsr9b1_116_0 => exact H9.out.2.2.2
            clear hK K
            try simp only [Act.put, List.setIfInBounds_toArray, List.set_cons_zero, List.set_cons_succ]
            refine wpAnyH_done (by kernel_rfl) ?dnr9b1_117 _
            gi_wp2
            have L9 := (WE.out (.cells #[.int .i64 (q : Int)] 3)).setOd (.slice (some ⟨g9, 0, none⟩) (s1.od.length + 1) cap9) (s1.od ++ [(q : Int)]) H9.out.2.1 (by rw [List.length_append, show encI (s1.od ++ [(q : Int)]) = encI s1.od ++ [.int .i64 (q : Int)] by simp [encI, encs]]; exact H9.out.1) (by rcases H9.out.2.2.1 with h_ | h_; exact .inl h_.symm; exact .inr ⟨g9, rfl, by rw [h_]; exact Nat.le_refl _⟩)
            have KO9 := ((HK8.out.1.trans (keepsO (((Grows.refl W8).alloc (.cells #[.int .i64 (q : Int)] 3)).drewN 1).below)).trans (KeepsOthers.of_grownBy H9.out.2.1 (fun j o e_ ho_ => by rcases (WE.out (.cells #[.int .i64 (q : Int)] 3)).od.2 with ⟨h_1, _⟩ | ⟨g_, c_, u_, h_1, _, h_2, _⟩; (rw [h_1] at e_; cases e_); (rw [h_1] at e_; simp [Value.ownBlock] at e_; subst e_; obtain rfl := Option.some.inj (h_2.symm.trans ho_); rfl)))).trans (KeepsOthers.setCell w9 ⟨p, 3, none⟩ (.slice (some ⟨g9, 0, none⟩) (s1.od.length + 1) cap9))
            have b19 := cell_set_far (p := ⟨p, 3, none⟩) (u := .slice (some ⟨g9, 0, none⟩) (s1.od.length + 1) cap9) ((H9.out.2.1.cell_far _ (World.block_lt_of_cell? _ _ (cell_grows (((Grows.refl W8).alloc (.cells #[.int .i64 (q : Int)] 3)).drewN 1) HK8.out.2.1)) (fun e_ => (HW9.out _ e_.symm).2 rfl)).trans (cell_grows (((Grows.refl W8).alloc (.cells #[.int .i64 (q : Int)] 3)).drewN 1) HK8.out.2.1)) (show w.heap.size + 1 ≠ p by omega)
            refine ⟨KO9.from _, below_between HB.out.2.2.2.1.bw L9.bw KO9.size, s2, (.slice (some ⟨g9, 0, none⟩) (s1.od.length + 1) cap9), ?_, HB.out.2.2.2.2.2.2.2.1, ?_, ?_, H9.out.2.2.2, b19, Nat.le_trans HB.out.2.2.2.2.1 KO9.size, ?_⟩
            · rw [List.map_append, List.map_singleton, visitL_snoc, HB.out.1]; exact HB.out.2.2.2.2.2.2.1
            · rw [HB.out.2.2.2.2.2.2.2.2.1, List.length_append, HB.out.2.2.1, List.length_append]; simp; omega
            · rw [HK8.out.2.2.2]; exact L9
            · intro k hk
              have hk' : g9 = k := by simpa [Value.ownBlock] using hk
              subst hk'
              rcases H9.out.2.2.1 with h_ | h_
              · exact HB.out.2.2.2.2.2.1 _ h_
              · refine .inr ?_
                rw [h_]
                exact Nat.le_trans HB.out.2.2.2.2.1 (Nat.le_trans HK8.out.1.size ((((Grows.refl W8).alloc (.cells #[.int .i64 (q : Int)] 3)).drewN 1).below.size))
          · have h40 : n4 = 0 := by omega
            subst h40
            have HE4 := Aside0.mk he4
            have HD4 := Aside0.mk (Nat.lt_irrefl 0)
            clear hl4 he4
            gi_wp2_with (refine ⟨trivial, ?_⟩; gi_at_call 89; refine (CallsIn.inRound l (callsIn_wide.2 (ends_calls t x q _ (HL7.out.tr.below HL7.out.bw) HI.out.2.2.2.1))).mono ?_; rintro ee w7 ⟨v7, rfl, hv7, hb7⟩; obtain ⟨A7, c7, e7⟩ := Kd.R_slice hv7; subst e7; rw [← HE4.out]; have h77 := HL7.out.below hb7; have b07 := cell_below hb7 b06; have d2 := h77.c2; have d3 := h77.olAt q hqx; have d4 := h77.olz q; have H77 := Aside0.mk (And.intro h77 hb7); clear hv7 hb7 h77)
            obtain ⟨W8, hW8⟩ : ∃ W8, W8 = w7 := ⟨_, rfl⟩
            rw [← hW8]
            have L8 : Lk w0 W8 p gf go x.length t x ⟨s1.fl.set q f, (s1.ol.set q (atI s1.ol f)), s1.od⟩ vod1 := by rw [hW8]; exact H77.out.1
            have b08 : W8.cell? ⟨w.heap.size, 0, none⟩ = some (.pointer (some ⟨p, 0, none⟩)) := by rw [hW8]; exact b07
            have b18 : W8.cell? ⟨w.heap.size + 1, 0, none⟩ = some (.int .i64 n) := by rw [hW8]; exact cell_below H77.out.2 HK6.out.2
            have KO8 : KeepsOthers W W8 := by rw [hW8]; exact HK6.out.1.trans (keepsO H77.out.2)
            have hs8 : s2 = ⟨s1.fl.set q f, (s1.ol.set q (atI s1.ol f)), s1.od ++ [(q : Int)]⟩ := by
              have h_ := HB.out.2.2.2.2.2.2.2.2.2.1
              rw [← HE4.out] at h_
              rw [h_]
              rw [if_neg (by have := HD4.out; omega)]
            have WE := Aside0.mk (show ∀ o : Obj, Lk w0 ((W8.alloc o).drew) p gf go x.length t x _ vod1 from fun o => L8.grows (((Grows.refl W8).alloc o).drewN 1))
            have j3 := L8.c3
            have j3a : ((W8.alloc (.cells #[.int .i64 (q : Int)] 3)).drew).cell? ⟨p, 3, none⟩ = some vod1 := (WE.out _).c3
            have b0a : ((W8.alloc (.cells #[.int .i64 (q : Int)] 3)).drew).cell? ⟨w.heap.size, 0, none⟩ = some (.pointer (some ⟨p, 0, none⟩)) := cell_grows (((Grows.refl W8).alloc _).drewN 1) b08
            obtain ⟨i0, hi0, hz0, hs0, hb0⟩ := info_parts info3
            have HI0 := Aside0.mk (And.intro hi0 (And.intro hz0 (And.intro hs0 hb0)))
            have hod9 : s1.od.length + 1 ≤ 10000000001 := by have h_1 := HB.out.2.2.1; have h_2 := HI.out.2.2.2.2.2.2; have h_3 := HB.out.2.2.2.2.2.2.2.2.2.2.1; omega
            have HK8 := Aside0.mk (And.intro KO8 (And.intro b18 (And.intro L8 hs8)))
            have hw9 : ∀ k, vod1.ownBlock = some k → k ≠ w.heap.size ∧ k ≠ w.heap.size + 1 := fun k hk => by have h_1 := HB.out.2.2.2.2.2.1 k hk; have h_2 := HS.out; omega
            have HW9 := Aside0.mk hw9
            clear hi0 hz0 hs0 hb0 hW8 H77 HK6 L8 b18 KO8 hs8 hw9 d2 d3 d4 b07 b06 c06
            gi_wp2
            refine wpIn_region_held (S := fun w' => w'.cell? ⟨w.heap.size, 0, none⟩ = some (.pointer (some ⟨p, 0, none⟩))) (by kernel_rfl) (by kernel_rfl) (by rintro ⟨a_, w_, h_⟩; exact h_) ?s0r9b0 (fun hHeld => ?b0r9b0)
            case s0r9b0 => exact b08
            refine wpAnyH_take (i := 0) (oi := { dst := some 69, op := Go.Op.load 52 (Go.Operand.tmp 2), type := 52, pos := "fail.go:46", after := #[], guard := none }) (v := ?vr9b0_118) rfl (by kernel_rfl) (by kernel_rfl) (by kernel_rfl) (fun _ _ _ h => h) (Or.inl ⟨by rfl, ?hyr9b0_118⟩) (by assumption) ?rer9b0_118
            case hyr9b0_118 => (intro w hSw; (try dsimp only at hSw); go_simp; try with_reducible rfl)
            try simp only [Act.put, List.setIfInBounds_toArray, List.set_cons_zero, List.set_cons_succ]
            refine wpAnyH_take (i := 1) (oi := { dst := some 70, op := Go.Op.load 52 (Go.Operand.tmp 2), type := 52, pos := "fail.go:46", after := #[], guard := none }) (v := ?vr9b0_119) rfl (by kernel_rfl) (by kernel_rfl) (by kernel_rfl) (fun _ _ _ h => h) (Or.inl ⟨by rfl, ?hyr9b0_119⟩) (by assumption) ?rer9b0_119
            case hyr9b0_119 => (intro w hSw; (try dsimp only at hSw); go_simp; try with_reducible rfl)
            try simp only [Act.put, List.setIfInBounds_toArray, List.set_cons_zero, List.set_cons_succ]
            refine wpAnyH_take (i := 2) (oi := { dst := some 71, op := Go.Op.nilCheck (Go.Operand.tmp 70), type := 0, pos := "fail.go:46", after := #[{ on := 1, ground := Go.Ground.data }], guard := none }) (v := ?vr9b0_120) rfl (by kernel_rfl) (by kernel_rfl) (by kernel_rfl) (fun _ _ _ h => h) (Or.inl ⟨by rfl, ?hyr9b0_120⟩) (by assumption) ?rer9b0_120
            case hyr9b0_120 => (intro w hSw; (try dsimp only at hSw); go_simp; try with_reducible rfl)
            try simp only [Act.put, List.setIfInBounds_toArray, List.set_cons_zero, List.set_cons_succ]
            refine wpAnyH_take (i := 3) (oi := { dst := some 72, op := Go.Op.fieldAddr 99 (Go.Operand.tmp 71) 3, type := 0, pos := "fail.go:46", after := #[{ on := 2, ground := Go.Ground.data }], guard := none }) (v := ?vr9b0_121) rfl (by kernel_rfl) (by kernel_rfl) (by kernel_rfl) (fun _ _ _ h => h) (Or.inl ⟨by rfl, ?hyr9b0_121⟩) (by assumption) ?rer9b0_121
            case hyr9b0_121 => (intro w hSw; (try dsimp only at hSw); go_simp; try with_reducible rfl)
            try simp only [Act.put, List.setIfInBounds_toArray, List.set_cons_zero, List.set_cons_succ]
            refine wpAnyH_take (i := 5) (oi := { dst := some 74, op := Go.Op.move (Go.Operand.tmp 5), type := 3, pos := "fail.go:46", after := #[], guard := none }) (v := ?vr9b0_122) rfl (by kernel_rfl) (by kernel_rfl) (by kernel_rfl) (fun _ _ _ h => h) (Or.inl ⟨by rfl, ?hyr9b0_122⟩) (by assumption) ?rer9b0_122
            case hyr9b0_122 => (intro w hSw; (try dsimp only at hSw); go_simp; try with_reducible rfl)
            try simp only [Act.put, List.setIfInBounds_toArray, List.set_cons_zero, List.set_cons_succ]
            refine wpAnyH_ready (rs := [4, 6]) (by kernel_rfl) (by simp) ?rdr9b0_123
            refine AllReadyH.cons (o := { dst := some 73, op := Go.Op.load 23 (Go.Operand.tmp 72), type := 23, pos := "fail.go:46", after := #[{ on := 3, ground := Go.Ground.data }], guard := none }) rfl (fun K hK => ?str9b0_123_0) ?mor9b0_123_0
            case str9b0_123_0 =>
              go_simp
              refine hK.out _ _ ?hsr9b0_123_0 (fun hHeld => ?rer9b0_123_0)
              case hsr9b0_123_0 => exact b08
              clear hK K
              try simp only [Act.put, List.setIfInBounds_toArray, List.set_cons_zero, List.set_cons_succ]
              refine wpAnyH_ready (rs := [6]) (by kernel_rfl) (by simp) ?rdr9b0_124
              refine AllReadyH.cons (o := { dst := some 75, op := Go.Op.buildSlice 23 1 #[(0, Go.Operand.tmp 74)], type := 23, pos := "fail.go:46", after := #[{ on := 5, ground := Go.Ground.data }], guard := none }) rfl (fun K hK => ?str9b0_124_0) AllReadyH.nil
              go_simp
              refine hK.out _ _ ?hsr9b0_124_0 (fun hHeld => ?rer9b0_124_0)
              case hsr9b0_124_0 => exact b0a
              clear hK K
              try simp only [Act.put, List.setIfInBounds_toArray, List.set_cons_zero, List.set_cons_succ]
              refine wpAnyH_ready (rs := [7]) (by kernel_rfl) (by simp) ?rdr9b0_125
              refine AllReadyH.cons (o := { dst := some 76, op := Go.Op.call { callee := Go.Callee.builtin Go.Builtin.append, args := #[Go.Operand.tmp 73, Go.Operand.tmp 75], argTypes := #[23, 23] }, type := 23, pos := "fail.go:46", after := #[{ on := 4, ground := Go.Ground.data }, { on := 6, ground := Go.Ground.data }], guard := none }) rfl (fun K hK => ?str9b0_125_0) AllReadyH.nil
              refine step_append_lies _ rfl (.tmp 73) (.tmp 75) 23 rfl w0.heap.size 3 i0 (.int .i64 0) 1 8 Try.underlying23 HI0.out.1 HI0.out.2.1 HI0.out.2.2.1 HI0.out.2.2.2 rfl (by decide) vod1 s1.od.length (encI s1.od) (by simp [Act.eval, Act.put]) (WE.out _).od ⟨W8.heap.size, 0, none⟩ 1 1 [.int .i64 (q : Int)] (by simp [Act.eval, Act.put]) rfl (World.news_of_block (heap_alloc_new _ _)) (by simp [Value.oneCell']) (by decide) (by unfold maxLen; omega) (by omega) (WE.out _).bw.size _ rfl ?_
              intro g9 cap9 w9 ho9 hg9 hat9 hlt9
              have b9 := blk_grown (WE.out (.cells #[.int .i64 (q : Int)] 3)).blk hg9 (fun e_ => by rcases own_ne_blk (WE.out (.cells #[.int .i64 (q : Int)] 3)).od (WE.out (.cells #[.int .i64 (q : Int)] 3)).blk (by decide) with h_1 | h_1; (rw [h_1] at e_; cases e_); exact h_1 e_.symm)
              have k39 : w9.cell? ⟨p, 3, none⟩ = some vod1 := by rw [blk_cell b9]; rfl
              have z39 := blk_frozen b9 3
              have b09 : w9.cell? ⟨w.heap.size, 0, none⟩ = some (.pointer (some ⟨p, 0, none⟩)) := (hg9.cell_far _ (World.block_lt_of_cell? _ _ b0a) (fun e_ => (HW9.out _ e_.symm).1 rfl)).trans b0a
              have b0f := cell_set_far (p := ⟨p, 3, none⟩) (u := .slice (some ⟨g9, 0, none⟩) (s1.od.length + 1) cap9) b09 (show w.heap.size ≠ p by omega)
              have H9 := Aside0.mk (And.intro ho9 (And.intro hg9 (And.intro hat9 b0f)))
              clear ho9 hg9 hat9 b9 b0f
              refine hK.out _ _ ?hsr9b0_125_0 (fun hHeld => ?rer9b0_125_0)
              case hsr9b0_125_0 => exact b09
              clear hK K
              try simp only [Act.put, List.setIfInBounds_toArray, List.set_cons_zero, List.set_cons_succ]
              refine wpAnyH_take (i := 8) (oi := { dst := some 77, op := Go.Op.nilCheck (Go.Operand.tmp 69), type := 0, pos := "fail.go:46", after := #[{ on := 0, ground := Go.Ground.data }, { on := 0, ground := Go.Ground.phase }, { on := 1, ground := Go.Ground.phase }, { on := 2, ground := Go.Ground.phase }, { on := 3, ground := Go.Ground.phase }, { on := 4, ground := Go.Ground.phase }, { on := 5, ground := Go.Ground.phase }, { on := 6, ground := Go.Ground.phase }, { on := 7, ground := Go.Ground.phase }], guard := none }) (v := ?vr9b0_126) rfl (by kernel_rfl) (by kernel_rfl) (by kernel_rfl) (fun _ _ _ h => h) (Or.inl ⟨by rfl, ?hyr9b0_126⟩) (by assumption) ?rer9b0_126
              case hyr9b0_126 => (intro w hSw; (try dsimp only at hSw); go_simp; try with_reducible rfl)
              try simp only [Act.put, List.setIfInBounds_toArray, List.set_cons_zero, List.set_cons_succ]
              refine wpAnyH_take (i := 9) (oi := { dst := some 78, op := Go.Op.fieldAddr 99 (Go.Operand.tmp 77) 3, type := 0, pos := "fail.go:46", after := #[{ on := 8, ground := Go.Ground.data }, { on := 0, ground := Go.Ground.phase }, { on := 1, ground := Go.Ground.phase }, { on := 2, ground := Go.Ground.phase }, { on := 3, ground := Go.Ground.phase }, { on := 4, ground := Go.Ground.phase }, { on := 5, ground := Go.Ground.phase }, { on := 6, ground := Go.Ground.phase }, { on := 7, ground := Go.Ground.phase }], guard := none }) (v := ?vr9b0_127) rfl (by kernel_rfl) (by kernel_rfl) (by kernel_rfl) (fun _ _ _ h => h) (Or.inl ⟨by rfl, ?hyr9b0_127⟩) (by assumption) ?rer9b0_127
              case hyr9b0_127 => (intro w hSw; (try dsimp only at hSw); go_simp; try with_reducible rfl)
              try simp only [Act.put, List.setIfInBounds_toArray, List.set_cons_zero, List.set_cons_succ]
              refine wpAnyH_ready (rs := [10]) (by kernel_rfl) (by simp) ?rdr9b0_128
              refine AllReadyH.cons (o := { dst := none, op := Go.Op.store 23 (Go.Operand.tmp 78) (Go.Operand.tmp 76), type := 0, pos := "fail.go:46", after := #[{ on := 9, ground := Go.Ground.data }, { on := 7, ground := Go.Ground.data }, { on := 7, ground := Go.Ground.chain }, { on := 0, ground := Go.Ground.phase }, { on := 1, ground := Go.Ground.phase }, { on := 2, ground := Go.Ground.phase }, { on := 3, ground := Go.Ground.phase }, { on := 4, ground := Go.Ground.phase }, { on := 5, ground := Go.Ground.phase }, { on := 6, ground := Go.Ground.phase }, { on := 7, ground := Go.Ground.phase }], guard := none }) rfl (fun K hK => ?str9b0_128_0) AllReadyH.nil
              go_simp
              refine hK.out _ _ ?hsr9b0_128_0 (fun hHeld => ?rer9b0_128_0)
              case hsr9b0_128_0 => exact H9.out.2.2.2
              clear hK K
              try simp only [Act.put, List.setIfInBounds_toArray, List.set_cons_zero, List.set_cons_succ]
              refine wpAnyH_done (by kernel_rfl) ?dnr9b0_129 _
              gi_wp2
              have L9 := (WE.out (.cells #[.int .i64 (q : Int)] 3)).setOd (.slice (some ⟨g9, 0, none⟩) (s1.od.length + 1) cap9) (s1.od ++ [(q : Int)]) H9.out.2.1 (by rw [List.length_append, show encI (s1.od ++ [(q : Int)]) = encI s1.od ++ [.int .i64 (q : Int)] by simp [encI, encs]]; exact H9.out.1) (by rcases H9.out.2.2.1 with h_ | h_; exact .inl h_.symm; exact .inr ⟨g9, rfl, by rw [h_]; exact Nat.le_refl _⟩)
              have KO9 := ((HK8.out.1.trans (keepsO (((Grows.refl W8).alloc (.cells #[.int .i64 (q : Int)] 3)).drewN 1).below)).trans (KeepsOthers.of_grownBy H9.out.2.1 (fun j o e_ ho_ => by rcases (WE.out (.cells #[.int .i64 (q : Int)] 3)).od.2 with ⟨h_1, _⟩ | ⟨g_, c_, u_, h_1, _, h_2, _⟩; (rw [h_1] at e_; cases e_); (rw [h_1] at e_; simp [Value.ownBlock] at e_; subst e_; obtain rfl := Option.some.inj (h_2.symm.trans ho_); rfl)))).trans (KeepsOthers.setCell w9 ⟨p, 3, none⟩ (.slice (some ⟨g9, 0, none⟩) (s1.od.length + 1) cap9))
              have b19 := cell_set_far (p := ⟨p, 3, none⟩) (u := .slice (some ⟨g9, 0, none⟩) (s1.od.length + 1) cap9) ((H9.out.2.1.cell_far _ (World.block_lt_of_cell? _ _ (cell_grows (((Grows.refl W8).alloc (.cells #[.int .i64 (q : Int)] 3)).drewN 1) HK8.out.2.1)) (fun e_ => (HW9.out _ e_.symm).2 rfl)).trans (cell_grows (((Grows.refl W8).alloc (.cells #[.int .i64 (q : Int)] 3)).drewN 1) HK8.out.2.1)) (show w.heap.size + 1 ≠ p by omega)
              refine ⟨KO9.from _, below_between HB.out.2.2.2.1.bw L9.bw KO9.size, s2, (.slice (some ⟨g9, 0, none⟩) (s1.od.length + 1) cap9), ?_, HB.out.2.2.2.2.2.2.2.1, ?_, ?_, H9.out.2.2.2, b19, Nat.le_trans HB.out.2.2.2.2.1 KO9.size, ?_⟩
              · rw [List.map_append, List.map_singleton, visitL_snoc, HB.out.1]; exact HB.out.2.2.2.2.2.2.1
              · rw [HB.out.2.2.2.2.2.2.2.2.1, List.length_append, HB.out.2.2.1, List.length_append]; simp; omega
              · rw [HK8.out.2.2.2]; exact L9
              · intro k hk
                have hk' : g9 = k := by simpa [Value.ownBlock] using hk
                subst hk'
                rcases H9.out.2.2.1 with h_ | h_
                · exact HB.out.2.2.2.2.2.1 _ h_
                · refine .inr ?_
                  rw [h_]
                  exact Nat.le_trans HB.out.2.2.2.2.1 (Nat.le_trans HK8.out.1.size ((((Grows.refl W8).alloc (.cells #[.int .i64 (q : Int)] 3)).drewN 1).below.size))
            refine AllReadyH.cons (o := { dst := some 75, op := Go.Op.buildSlice 23 1 #[(0, Go.Operand.tmp 74)], type := 23, pos := "fail.go:46", after := #[{ on := 5, ground := Go.Ground.data }], guard := none }) rfl (fun K hK => ?str9b0_123_1) AllReadyH.nil
            go_simp
            refine hK.out _ _ ?hsr9b0_123_1 (fun hHeld => ?rer9b0_123_1)
            case hsr9b0_123_1 => exact b0a
            clear hK K
            try simp only [Act.put, List.setIfInBounds_toArray, List.set_cons_zero, List.set_cons_succ]
            refine wpAnyH_ready (rs := [4]) (by kernel_rfl) (by simp) ?rdr9b0_130
            refine AllReadyH.cons (o := { dst := some 73, op := Go.Op.load 23 (Go.Operand.tmp 72), type := 23, pos := "fail.go:46", after := #[{ on := 3, ground := Go.Ground.data }], guard := none }) rfl (fun K hK => ?str9b0_130_0) AllReadyH.nil
            go_simp
            refine hK.out _ _ ?hsr9b0_130_0 (fun hHeld => ?rer9b0_130_0)
            case hsr9b0_130_0 => exact b0a
            clear hK K
            try simp only [Act.put, List.setIfInBounds_toArray, List.set_cons_zero, List.set_cons_succ]
            refine wpAnyH_ready (rs := [7]) (by kernel_rfl) (by simp) ?rdr9b0_131
            refine AllReadyH.cons (o := { dst := some 76, op := Go.Op.call { callee := Go.Callee.builtin Go.Builtin.append, args := #[Go.Operand.tmp 73, Go.Operand.tmp 75], argTypes := #[23, 23] }, type := 23, pos := "fail.go:46", after := #[{ on := 4, ground := Go.Ground.data }, { on := 6, ground := Go.Ground.data }], guard := none }) rfl (fun K hK => ?str9b0_131_0) AllReadyH.nil
            refine step_append_lies _ rfl (.tmp 73) (.tmp 75) 23 rfl w0.heap.size 3 i0 (.int .i64 0) 1 8 Try.underlying23 HI0.out.1 HI0.out.2.1 HI0.out.2.2.1 HI0.out.2.2.2 rfl (by decide) vod1 s1.od.length (encI s1.od) (by simp [Act.eval, Act.put]) (WE.out _).od ⟨W8.heap.size, 0, none⟩ 1 1 [.int .i64 (q : Int)] (by simp [Act.eval, Act.put]) rfl (World.news_of_block (heap_alloc_new _ _)) (by simp [Value.oneCell']) (by decide) (by unfold maxLen; omega) (by omega) (WE.out _).bw.size _ rfl ?_
            intro g9 cap9 w9 ho9 hg9 hat9 hlt9
            have b9 := blk_grown (WE.out (.cells #[.int .i64 (q : Int)] 3)).blk hg9 (fun e_ => by rcases own_ne_blk (WE.out (.cells #[.int .i64 (q : Int)] 3)).od (WE.out (.cells #[.int .i64 (q : Int)] 3)).blk (by decide) with h_1 | h_1; (rw [h_1] at e_; cases e_); exact h_1 e_.symm)
            have k39 : w9.cell? ⟨p, 3, none⟩ = some vod1 := by rw [blk_cell b9]; rfl
            have z39 := blk_frozen b9 3
            have b09 : w9.cell? ⟨w.heap.size, 0, none⟩ = some (.pointer (some ⟨p, 0, none⟩)) := (hg9.cell_far _ (World.block_lt_of_cell? _ _ b0a) (fun e_ => (HW9.out _ e_.symm).1 rfl)).trans b0a
            have b0f := cell_set_far (p := ⟨p, 3, none⟩) (u := .slice (some ⟨g9, 0, none⟩) (s1.od.length + 1) cap9) b09 (show w.heap.size ≠ p by omega)
            have H9 := Aside0.mk (And.intro ho9 (And.intro hg9 (And.intro hat9 b0f)))
            clear ho9 hg9 hat9 b9 b0f
            refine hK.out _ _ ?hsr9b0_131_0 (fun hHeld => ?rer9b0_131_0)
            case hsr9b0_131_0 => exact b09
            clear hK K
            try simp only [Act.put, List.setIfInBounds_toArray, List.set_cons_zero, List.set_cons_succ]
            refine wpAnyH_take (i := 8) (oi := { dst := some 77, op := Go.Op.nilCheck (Go.Operand.tmp 69), type := 0, pos := "fail.go:46", after := #[{ on := 0, ground := Go.Ground.data }, { on := 0, ground := Go.Ground.phase }, { on := 1, ground := Go.Ground.phase }, { on := 2, ground := Go.Ground.phase }, { on := 3, ground := Go.Ground.phase }, { on := 4, ground := Go.Ground.phase }, { on := 5, ground := Go.Ground.phase }, { on := 6, ground := Go.Ground.phase }, { on := 7, ground := Go.Ground.phase }], guard := none }) (v := ?vr9b0_132) rfl (by kernel_rfl) (by kernel_rfl) (by kernel_rfl) (fun _ _ _ h => h) (Or.inl ⟨by rfl, ?hyr9b0_132⟩) (by assumption) ?rer9b0_132
            case hyr9b0_132 => (intro w hSw; (try dsimp only at hSw); go_simp; try with_reducible rfl)
            try simp only [Act.put, List.setIfInBounds_toArray, List.set_cons_zero, List.set_cons_succ]
            refine wpAnyH_take (i := 9) (oi := { dst := some 78, op := Go.Op.fieldAddr 99 (Go.Operand.tmp 77) 3, type := 0, pos := "fail.go:46", after := #[{ on := 8, ground := Go.Ground.data }, { on := 0, ground := Go.Ground.phase }, { on := 1, ground := Go.Ground.phase }, { on := 2, ground := Go.Ground.phase }, { on := 3, ground := Go.Ground.phase }, { on := 4, ground := Go.Ground.phase }, { on := 5, ground := Go.Ground.phase }, { on := 6, ground := Go.Ground.phase }, { on := 7, ground := Go.Ground.phase }], guard := none }) (v := ?vr9b0_133) rfl (by kernel_rfl) (by kernel_rfl) (by kernel_rfl) (fun _ _ _ h => h) (Or.inl ⟨by rfl, ?hyr9b0_133⟩) (by assumption) ?rer9b0_133
            case hyr9b0_133 => (intro w hSw; (try dsimp only at hSw); go_simp; try with_reducible rfl)
            try simp only [Act.put, List.setIfInBounds_toArray, List.set_cons_zero, List.set_cons_succ]
            refine wpAnyH_ready (rs := [10]) (by kernel_rfl) (by simp) ?rdr9b0_134
            refine AllReadyH.cons (o := { dst := none, op := Go.Op.store 23 (Go.Operand.tmp 78) (Go.Operand.tmp 76), type := 0, pos := "fail.go:46", after := #[{ on := 9, ground := Go.Ground.data }, { on := 7, ground := Go.Ground.data }, { on := 7, ground := Go.Ground.chain }, { on := 0, ground := Go.Ground.phase }, { on := 1, ground := Go.Ground.phase }, { on := 2, ground := Go.Ground.phase }, { on := 3, ground := Go.Ground.phase }, { on := 4, ground := Go.Ground.phase }, { on := 5, ground := Go.Ground.phase }, { on := 6, ground := Go.Ground.phase }, { on := 7, ground := Go.Ground.phase }], guard := none }) rfl (fun K hK => ?str9b0_134_0) AllReadyH.nil
            go_simp
            refine hK.out _ _ ?hsr9b0_134_0 (fun hHeld => ?rer9b0_134_0)
            case hsr9b0_134_0 => exact H9.out.2.2.2
            clear hK K
            try simp only [Act.put, List.setIfInBounds_toArray, List.set_cons_zero, List.set_cons_succ]
            refine wpAnyH_done (by kernel_rfl) ?dnr9b0_135 _
            gi_wp2
            have L9 := (WE.out (.cells #[.int .i64 (q : Int)] 3)).setOd (.slice (some ⟨g9, 0, none⟩) (s1.od.length + 1) cap9) (s1.od ++ [(q : Int)]) H9.out.2.1 (by rw [List.length_append, show encI (s1.od ++ [(q : Int)]) = encI s1.od ++ [.int .i64 (q : Int)] by simp [encI, encs]]; exact H9.out.1) (by rcases H9.out.2.2.1 with h_ | h_; exact .inl h_.symm; exact .inr ⟨g9, rfl, by rw [h_]; exact Nat.le_refl _⟩)
            have KO9 := ((HK8.out.1.trans (keepsO (((Grows.refl W8).alloc (.cells #[.int .i64 (q : Int)] 3)).drewN 1).below)).trans (KeepsOthers.of_grownBy H9.out.2.1 (fun j o e_ ho_ => by rcases (WE.out (.cells #[.int .i64 (q : Int)] 3)).od.2 with ⟨h_1, _⟩ | ⟨g_, c_, u_, h_1, _, h_2, _⟩; (rw [h_1] at e_; cases e_); (rw [h_1] at e_; simp [Value.ownBlock] at e_; subst e_; obtain rfl := Option.some.inj (h_2.symm.trans ho_); rfl)))).trans (KeepsOthers.setCell w9 ⟨p, 3, none⟩ (.slice (some ⟨g9, 0, none⟩) (s1.od.length + 1) cap9))
            have b19 := cell_set_far (p := ⟨p, 3, none⟩) (u := .slice (some ⟨g9, 0, none⟩) (s1.od.length + 1) cap9) ((H9.out.2.1.cell_far _ (World.block_lt_of_cell? _ _ (cell_grows (((Grows.refl W8).alloc (.cells #[.int .i64 (q : Int)] 3)).drewN 1) HK8.out.2.1)) (fun e_ => (HW9.out _ e_.symm).2 rfl)).trans (cell_grows (((Grows.refl W8).alloc (.cells #[.int .i64 (q : Int)] 3)).drewN 1) HK8.out.2.1)) (show w.heap.size + 1 ≠ p by omega)
            refine ⟨KO9.from _, below_between HB.out.2.2.2.1.bw L9.bw KO9.size, s2, (.slice (some ⟨g9, 0, none⟩) (s1.od.length + 1) cap9), ?_, HB.out.2.2.2.2.2.2.2.1, ?_, ?_, H9.out.2.2.2, b19, Nat.le_trans HB.out.2.2.2.2.1 KO9.size, ?_⟩
            · rw [List.map_append, List.map_singleton, visitL_snoc, HB.out.1]; exact HB.out.2.2.2.2.2.2.1
            · rw [HB.out.2.2.2.2.2.2.2.2.1, List.length_append, HB.out.2.2.1, List.length_append]; simp; omega
            · rw [HK8.out.2.2.2]; exact L9
            · intro k hk
              have hk' : g9 = k := by simpa [Value.ownBlock] using hk
              subst hk'
              rcases H9.out.2.2.1 with h_ | h_
              · exact HB.out.2.2.2.2.2.1 _ h_
              · refine .inr ?_
                rw [h_]
                exact Nat.le_trans HB.out.2.2.2.2.1 (Nat.le_trans HK8.out.1.size ((((Grows.refl W8).alloc (.cells #[.int .i64 (q : Int)] 3)).drewN 1).below.size))
      · exfalso
        have hnl : n < ts.length := by rw [HI.out.2.2.1.len]; exact hn
        obtain ⟨fn, vn, g1, g2, _, _⟩ := HB.out.2.1.fl n _ (List.getElem?_eq_getElem hnl)
        have hlt := HI.out.2.2.1.lt g2
        exact hi (isNode_iff.2 ⟨by omega, by rw [HB.out.2.1.fll]; omega⟩)
end Go.Proofs.Ytgfmplhpoblleaa.FailW
end
