/- SrtX. -/
import Derived.Test.YtgfmplhpoblleaaFK8
import Derived.Test.YtgfmplhpoblleaaFK9
section
/- slices.SortStableFunc over a row of node numbers: it ends; what it leaves is the same numbers. -/
namespace Go.Proofs.Ytgfmplhpoblleaa.FailW
open Go.RowKit Go.Shelf Go.Lib Go.Proofs Go.Proofs.YtgfmplhpoblleaaW.PrintWords Go.Proofs.YtgfmplhpoblleaaW.PrintLast Go.Proofs.YtgfmplhpoblleaaW.PrintMore Go.Proofs.Ytgfmplhpoblleaa.PRank Go.Proofs.Ytgfmplhpoblleaa.PFB Go.Proofs.Ytgfmplhpoblleaa.RankW Go.Proofs.Ytgfmplhpoblleaa.SortOwn Go.Proofs.Ytgfmplhpoblleaa
open Go.Proofs.Ytgfmplhpoblleaa.Cmps hiding dedup
set_option linter.unusedVariables false
set_option linter.unusedSimpArgs false

theorem sym_all (w0 : World) (b1 gd cap : Nat) (t : Addr) (x : List S106) (N : Nat) (hlen : N ≤ 1000000000000) : ∀ (d : Nat) (w : World) (xs A L R T : List Int) (a m b : Nat), SymIn x xs A L R T a m b → xs.length = N → Srt w0 w b1 gd cap t x xs → a < m → m < b → b ≤ N → b - a ≤ d → SymDoes w0 b1 gd cap t x N w A L R T a m b
  | 0, w, xs, A, L, R, T, a, m, b, hin, hN, hS, h1, h2, h3, h4 => by omega
  | d + 1, w, xs, A, L, R, T, a, m, b, hin, hN, hS, h1, h2, h3, h4 => by
    by_cases c1 : m = a + 1
    · exact sym_one w0 w b1 gd cap t x xs A L R T a m b N hin hN hS c1 h2 h3 hlen
    · by_cases c2 : b = m + 1
      · exact sym_last w0 w b1 gd cap t x xs A L R T a m b N hin hN hS (by omega) c2 h3 hlen
      · have ih : ∀ (w : World) (xs A L R T : List Int) (a' m' b' : Nat), SymIn x xs A L R T a' m' b' → xs.length = N → Srt w0 w b1 gd cap t x xs → a' < m' → m' < b' → b' ≤ N → b' - a' < b - a → SymDoes w0 b1 gd cap t x N w A L R T a' m' b' := fun w xs A L R T a' m' b' g0 g1 g2 g3 g4 g5 g6 => sym_all w0 b1 gd cap t x N hlen d w xs A L R T a' m' b' g0 g1 g2 g3 g4 g5 (by omega)
        by_cases c3 : (a + b) / 2 < m
        · exact sym_gen1 w0 w b1 gd cap t x xs A L R T a m b ((a + b) / 2) N hin hN hS (by omega) (by omega) h3 hlen rfl c3 ih
        · exact sym_gen2 w0 w b1 gd cap t x xs A L R T a m b ((a + b) / 2) N hin hN hS (by omega) (by omega) h3 hlen rfl (by omega) ih
theorem ins_calls' (w0 w : World) (b1 gd cap : Nat) (t : Addr) (x : List S106) (xs : List Int) (a b N : Nat) (hN : xs.length = N) (hS : Srt w0 w b1 gd cap t x xs) (hab : a ≤ b) (hb : b ≤ N) (hlen : N ≤ 1000000000000) (hO : OrdC (NdS x) (cmpD x)) (hP : ∀ u ∈ xs, NdS x u) :
    Calls Try.prog 122 #[.slice (some ⟨gd, 0, none⟩) N cap, .int .i64 a, .int .i64 b, .func (.func 81) #[] #[.pointer (some ⟨b1, 0, none⟩)]] w fun e w' => e = .returned (.tuple #[]) ∧ ∃ ys : List Int, Srt w0 w' b1 gd cap t x ys ∧ (ys.Perm xs ∧ OutS xs ys a b ∧ SegS (cmpD x) ys a b) ∧ w.grownBy w' (some gd) := by
  subst hN
  exact ins_calls w0 w b1 gd cap t x xs a b hS hab hb hlen hO hP
/-- symMerge over two stretches that are sorted. -/
theorem sym_calls (w0 w : World) (b1 gd cap : Nat) (t : Addr) (x : List S106) (xs : List Int) (a m b N : Nat) (hN : xs.length = N) (hlen : N ≤ 1000000000000) (hS : Srt w0 w b1 gd cap t x xs) (h1 : a < m) (h2 : m < b) (h3 : b ≤ N) (hO : OrdC (NdS x) (cmpD x)) (hP : ∀ u ∈ xs, NdS x u) (s1 : SegS (cmpD x) xs a m) (s2 : SegS (cmpD x) xs m b) :
    Calls Try.prog 123 #[.slice (some ⟨gd, 0, none⟩) N cap, .int .i64 a, .int .i64 m, .int .i64 b, .func (.func 81) #[] #[.pointer (some ⟨b1, 0, none⟩)]] w fun e w' => e = .returned (.tuple #[]) ∧ ∃ ys : List Int, Srt w0 w' b1 gd cap t x ys ∧ (ys.Perm xs ∧ OutS xs ys a b ∧ SegS (cmpD x) ys a b) ∧ w.grownBy w' (some gd) := by
  obtain ⟨A, L, R, T, e1, e2, e3, e4⟩ := four_parts xs a m b (by omega) (by omega) (by omega)
  have hin : SymIn x xs A L R T a m b := by
    refine ⟨hO, hP, e1, e2, e3, e4, ?_, ?_⟩
    · refine seg_parts (A := A) (T := R ++ T) ?_
      rw [← e1, e3, e2]; exact s1
    · refine seg_parts (A := A ++ L) (T := T) ?_
      rw [List.append_assoc, ← e1, List.length_append, e3, show m + R.length = b by omega]; exact s2
  refine (sym_all w0 b1 gd cap t x N hlen (b - a) w xs A L R T a m b hin hN hS h1 h2 h3 (Nat.le_refl _)).mono ?_
  rintro e w2 ⟨rfl, M, hS2, ⟨hp, hs⟩, hg⟩
  have hml := hp.length_eq
  rw [List.length_append] at hml
  refine ⟨rfl, _, hS2, ⟨?_, ?_, ?_⟩, hg⟩
  · rw [e1, ← List.append_assoc L]
    exact List.Perm.append_left _ (List.Perm.append_right _ hp)
  · intro p hp
    rw [e1]
    rcases hp with hp | hp
    · rw [List.getElem?_append_left (by omega), List.getElem?_append_left (by omega)]
    · rw [List.getElem?_append_right (by omega), List.getElem?_append_right (by omega), List.getElem?_append_right (by omega), List.getElem?_append_right (by omega), List.getElem?_append_right (by omega)]
      congr 1; omega
  · have := parts_seg (A := A) (T := T) hs
    rw [e2, show a + M.length = b by omega] at this
    exact this

set_option maxHeartbeats 8000000 in
set_option maxRecDepth 100000 in
theorem stable_calls (w0 w : World) (b1 gd cap : Nat) (t : Addr) (x : List S106) (xs : List Int) (N : Nat) (hN : xs.length = N) (hS : Srt w0 w b1 gd cap t x xs) (hlen : N ≤ 1000000000000) (hO : OrdC (NdS x) (cmpD x)) (hP : ∀ u ∈ xs, NdS x u) :
    Calls Try.prog 103 #[.slice (some ⟨gd, 0, none⟩) N cap, .int .i64 N, .func (.func 81) #[] #[.pointer (some ⟨b1, 0, none⟩)]] w fun e w' => e = .returned (.tuple #[]) ∧ ∃ ys : List Int, Srt w0 w' b1 gd cap t x ys ∧ (ys.Perm xs ∧ SegS (cmpD x) ys 0 N) ∧ w.grownBy w' (some gd) := by
  have HS := Aside0.mk hS
  have HO := Aside0.mk (And.intro hO hP)
  clear hS hO hP
  go_enter Try.func103, Try.ntmps103
  go_wp2
  go_loopw [7, 8] (fun av bv wr => ∃ (a b : Nat) (ys : List Int), av = .int .i64 a ∧ bv = .int .i64 b ∧ a ≤ N ∧ b = a + 20 ∧ Srt w0 wr b1 gd cap t x ys ∧ (ys.Perm xs ∧ BlkS (cmpD x) ys 20 a N) ∧ w.grownBy wr (some gd)) (fun av bv wr => N + 20 - (intOf bv).toNat)
  case atStart =>
    exact ⟨0, 20, xs, rfl, rfl, Nat.zero_le _, rfl, HS.out, ⟨List.Perm.refl _, blk0 _ _ _ _⟩, grownBy_refl _ _⟩
  case round =>
    obtain ⟨a, b, ys, rfl, rfl, ha, hb, hS, hp, hg⟩ := hrel
    have HQ := Aside0.mk (And.intro hS (And.intro hp (And.intro hg hb)))
    have hb2 : b ≤ 1000000000020 := by omega
    have hab : a ≤ b := by omega
    clear hS hp hg hb
    by_cases hlt : b ≤ N
    · have z1 : (b : Int) ≤ (N : Int) := by omega
      go_wp2_with ((go_at_call 122; refine (ins_calls' w0 _ b1 gd cap t x ys a b N (HQ.out.2.1.1.length_eq.trans hN) HQ.out.1 hab hlt hlen HO.out.1 (fun u hu => HO.out.2 u (HQ.out.2.1.1.mem_iff.1 hu))).mono ?_; rintro e w2 ⟨rfl, zs, hz2, hzp, hzg⟩; have HZ := Aside0.mk (And.intro hz2 (And.intro hzp hzg)); clear hz2 hzp hzg))
      exact ⟨⟨b, b + 20, zs, rfl, by go_num, hlt, rfl, HZ.out.1, ⟨HZ.out.2.1.1.trans HQ.out.2.1.1, HQ.out.2.1.2.more (by omega) HQ.out.2.2.2 hlt HZ.out.2.1.2.1 HZ.out.2.1.2.2⟩, HQ.out.2.2.1.trans HZ.out.2.2⟩, by simp only [intOf]; omega⟩
    · have z1 : ¬ ((b : Int) ≤ (N : Int)) := by omega
      go_wp2_with ((go_at_call 122; refine (ins_calls' w0 _ b1 gd cap t x ys a N N (HQ.out.2.1.1.length_eq.trans hN) HQ.out.1 ha (Nat.le_refl _) hlen HO.out.1 (fun u hu => HO.out.2 u (HQ.out.2.1.1.mem_iff.1 hu))).mono ?_; rintro e w2 ⟨rfl, zs, hz2, hzp, hzg⟩; have HZ := Aside0.mk (And.intro hz2 (And.intro (And.intro (hzp.1.trans HQ.out.2.1.1) (HQ.out.2.1.2.last (by omega) (by have := HQ.out.2.2.2; omega) hzp.2.1 hzp.2.2)) (HQ.out.2.2.1.trans hzg))); clear hz2 hzp hzg))
      go_loopw [6] (fun bv wr => ∃ (bs : Nat) (ys : List Int), bv = .int .i64 bs ∧ 1 ≤ bs ∧ bs ≤ 2000000000020 ∧ Srt w0 wr b1 gd cap t x ys ∧ (ys.Perm xs ∧ BlkA (cmpD x) ys bs N) ∧ w.grownBy wr (some gd)) (fun bv wr => N - (intOf bv).toNat)
      case atStart => exact ⟨20, zs, rfl, by omega, by omega, HZ.out.1, HZ.out.2.1, HZ.out.2.2⟩
      case round =>
        obtain ⟨bs, y2, rfl, h1, h2, hS, hp, hg⟩ := hrel
        have HW := Aside0.mk (And.intro hS (And.intro hp hg))
        clear hS hp hg
        by_cases hlt2 : bs < N
        · have z2 : (bs : Int) < (N : Int) := by omega
          obtain ⟨b2, hb2'⟩ : ∃ b2, b2 = 2 * bs := ⟨_, rfl⟩
          have w1 : IntKind.i64.wrap (2 * (bs : Int)) = (b2 : Int) := by rw [IntWalk.i64_in _ (by omega)]; omega
          have w1' : IntKind.i64.wrap ((bs : Int) * 2) = (b2 : Int) := by rw [IntWalk.i64_in _ (by omega)]; omega
          have HB2 := Aside0.mk hb2'
          have hb2b : b2 ≤ 2000000000000 := by omega
          clear hb2'
          go_wp2
          go_loopw [7, 8] (fun av bv wr => ∃ (a b : Nat) (ys : List Int), av = .int .i64 a ∧ bv = .int .i64 b ∧ a ≤ N ∧ b = a + b2 ∧ Srt w0 wr b1 gd cap t x ys ∧ (ys.Perm xs ∧ BlkS (cmpD x) ys b2 a N ∧ BlkF (cmpD x) ys bs a N) ∧ w.grownBy wr (some gd)) (fun av bv wr => N + b2 - (intOf bv).toNat)
          case atStart => exact ⟨0, b2, y2, rfl, by first | rfl | go_num, Nat.zero_le _, by omega, HW.out.1, ⟨HW.out.2.1.1, blk0 _ _ _ _, HW.out.2.1.2.from0⟩, HW.out.2.2⟩
          case round =>
            obtain ⟨a, b, y3, rfl, rfl, ha, hb, hS, hp, hg⟩ := hrel
            obtain ⟨mm, hmm⟩ : ∃ mm, mm = a + bs := ⟨_, rfl⟩
            obtain ⟨bn, hbn⟩ : ∃ bn, bn = b + b2 := ⟨_, rfl⟩
            have w2 : IntKind.i64.wrap ((a : Int) + (bs : Int)) = (mm : Int) := by rw [IntWalk.i64_in _ (by omega)]; omega
            have w3 : IntKind.i64.wrap ((b : Int) + (b2 : Int)) = (bn : Int) := by rw [IntWalk.i64_in _ (by omega)]; omega
            have HX := Aside0.mk (And.intro hS (And.intro hp (And.intro hg (And.intro hb (And.intro hmm hbn)))))
            clear hS hp hg hb hmm hbn
            by_cases hlt3 : b ≤ N
            · have z3 : (b : Int) ≤ (N : Int) := by omega
              go_wp2_with ((go_at_call 123; refine (sym_calls w0 _ b1 gd cap t x y3 a mm b N (HX.out.2.1.1.length_eq.trans hN) hlen HX.out.1 (by have := HX.out.2.2.2; omega) (by have := HX.out.2.2.2; have := HB2.out; omega) hlt3 HO.out.1 (fun u hu => HO.out.2 u (HX.out.2.1.1.mem_iff.1 hu)) (by have h_ := (blk_two HX.out.2.1.2.1 HX.out.2.1.2.2 HB2.out).1; have h2_ := HX.out.2.2.2; have := HB2.out; rw [← h2_.2.1, Nat.min_eq_left (by omega)] at h_; exact h_) (by have h_ := (blk_two HX.out.2.1.2.1 HX.out.2.1.2.2 HB2.out).2; have h2_ := HX.out.2.2.2; rw [← h2_.2.1, ← h2_.1, Nat.min_eq_left (by omega)] at h_; exact h_)).mono ?_; rintro e w2 ⟨rfl, zs, hz2, hzp, hzg⟩; have HY := Aside0.mk (And.intro hz2 (And.intro (And.intro (hzp.1.trans HX.out.2.1.1) (And.intro (HX.out.2.1.2.1.more (by have := HB2.out; omega) HX.out.2.2.2.1 hlt3 hzp.2.1 hzp.2.2) (HX.out.2.1.2.2.more (by have := HX.out.2.2.2; omega) hzp.2.1))) (HX.out.2.2.1.trans hzg))); clear hz2 hzp hzg))
              exact ⟨⟨b, bn, _, rfl, rfl, hlt3, HX.out.2.2.2.2.2, HY.out.1, HY.out.2.1, HY.out.2.2⟩, by have := HX.out.2.2.2; have := HB2.out; simp only [intOf]; omega⟩
            · have z3 : ¬ ((b : Int) ≤ (N : Int)) := by omega
              by_cases hlt4 : mm < N
              · have z4 : (mm : Int) < (N : Int) := by omega
                go_wp2_with ((go_at_call 123; refine (sym_calls w0 _ b1 gd cap t x y3 a mm N N (HX.out.2.1.1.length_eq.trans hN) hlen HX.out.1 (by have := HX.out.2.2.2; omega) hlt4 (Nat.le_refl _) HO.out.1 (fun u hu => HO.out.2 u (HX.out.2.1.1.mem_iff.1 hu)) (by have h_ := (blk_two HX.out.2.1.2.1 HX.out.2.1.2.2 HB2.out).1; have h2_ := HX.out.2.2.2; rw [← h2_.2.1, Nat.min_eq_left (by omega)] at h_; exact h_) (by have h_ := (blk_two HX.out.2.1.2.1 HX.out.2.1.2.2 HB2.out).2; have h2_ := HX.out.2.2.2; rw [← h2_.2.1, ← h2_.1, Nat.min_eq_right (by omega)] at h_; exact h_)).mono ?_; rintro e w2 ⟨rfl, zs, hz2, hzp, hzg⟩; have HY := Aside0.mk (And.intro hz2 (And.intro (And.intro (hzp.1.trans HX.out.2.1.1) (HX.out.2.1.2.1.last (by have := HB2.out; omega) (by have := HX.out.2.2.2; omega) hzp.2.1 hzp.2.2)) (HX.out.2.2.1.trans hzg))); clear hz2 hzp hzg))
                exact ⟨⟨b2, _, rfl, by have := HB2.out; omega, by omega, HY.out.1, HY.out.2.1, HY.out.2.2⟩, by have := HB2.out; simp only [intOf]; omega⟩
              · have z4 : ¬ ((mm : Int) < (N : Int)) := by omega
                have hseg := (blk_two HX.out.2.1.2.1 HX.out.2.1.2.2 HB2.out).1
                have h2_ := HX.out.2.2.2
                rw [← h2_.2.1, Nat.min_eq_right (by omega)] at hseg
                have HSG := Aside0.mk (And.intro HX.out.2.1.1 (HX.out.2.1.2.1.end_ (by have := HB2.out; omega) (by omega) hseg))
                clear hseg h2_
                go_wp2
                exact ⟨⟨b2, _, rfl, by have := HB2.out; omega, by omega, HX.out.1, HSG.out, HX.out.2.2.1⟩, by have := HB2.out; simp only [intOf]; omega⟩
        · have z2 : ¬ ((bs : Int) < (N : Int)) := by omega
          go_wp2
          go_end0
          have h_ := HW.out.2.1.2 0
          rw [Nat.zero_mul, Nat.zero_add, Nat.one_mul, Nat.min_eq_right (by omega)] at h_
          exact ⟨rfl, y2, HW.out.1, ⟨HW.out.2.1.1, h_⟩, HW.out.2.2⟩
set_option maxRecDepth 100000 in
theorem sort_nodes (w0 w : World) (b1 gd cap : Nat) (t : Addr) (x : List S106) (xs : List Int) (N : Nat) (hN : xs.length = N) (hS : Srt w0 w b1 gd cap t x xs) (hlen : N ≤ 1000000000000) (hO : OrdC (NdS x) (cmpD x)) (hP : ∀ u ∈ xs, NdS x u) :
    Calls Try.prog 80 #[.slice (some ⟨gd, 0, none⟩) N cap, .func (.func 81) #[] #[.pointer (some ⟨b1, 0, none⟩)]] w fun e w' => e = .returned (.tuple #[]) ∧ ∃ ys : List Int, Srt w0 w' b1 gd cap t x ys ∧ (ys.Perm xs ∧ SegS (cmpD x) ys 0 N) ∧ w.grownBy w' (some gd) := by
  have HS := Aside0.mk hS
  have HO := Aside0.mk (And.intro hO hP)
  clear hS hO hP
  go_enter Try.func80, Try.ntmps80
  go_wp2_with ((go_at_call 103; refine (stable_calls w0 _ b1 gd cap t x xs N hN HS.out hlen HO.out.1 HO.out.2).mono ?_; rintro e w2 ⟨rfl, zs, hz2, hzp, hzg⟩; have HZ := Aside0.mk (And.intro hz2 (And.intro hzp hzg)); clear hz2 hzp hzg))
  go_end0
  exact ⟨rfl, zs, HZ.out.1, HZ.out.2.1, HZ.out.2.2⟩
end Go.Proofs.Ytgfmplhpoblleaa.FailW
end
