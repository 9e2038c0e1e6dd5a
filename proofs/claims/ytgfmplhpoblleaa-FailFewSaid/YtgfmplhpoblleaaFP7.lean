/- FailS, FailT, FailU. -/
import Derived.Test.YtgfmplhpoblleaaFP5
import Derived.Deep.RegionHeld3
import Derived.Deep.DeepCutAuto
import Derived.BigRegion
import Derived.Deep.QuietTactic
import Derived.BigQuiet
section
/- slices.SortStableFunc over a row of node numbers, by depths: it ends, and what it leaves is the same numbers. -/
namespace Go.Proofs.Ytgfmplhpoblleaa.FailW
open Go.RowKit Go.Shelf Go.Lib Go.Proofs Go.Proofs.YtgfmplhpoblleaaW.PrintWords Go.Proofs.YtgfmplhpoblleaaW.PrintLast Go.Proofs.YtgfmplhpoblleaaW.PrintMore Go.Proofs.Ytgfmplhpoblleaa.PRank Go.Proofs.Ytgfmplhpoblleaa.PFB Go.Proofs.Ytgfmplhpoblleaa.RankW Go.Proofs.Ytgfmplhpoblleaa.SortOwn Go.Proofs.Ytgfmplhpoblleaa
open Go.Proofs.Ytgfmplhpoblleaa.Cmps hiding dedup
set_option linter.unusedVariables false
set_option linter.unusedSimpArgs false

theorem cell_set_far' {w : World} {a p : Addr} {u v : Value} (h : w.cell? a = some v) (hne : a.block ≠ p.block) : (w.setCell p u).cell? a = some v := (World.cell?_of_block (Below.heap_setCell w p u a.block hne)).trans h
/-- How two nodes compare. -/
def cmpD (x : List S106) (a b : Int) : Int := if IntKind.i64.wrap ((nodeOf x a).f2 - (nodeOf x b).f2) = 0 then wrap64 (a - b) else IntKind.i64.wrap ((nodeOf x a).f2 - (nodeOf x b).f2)
set_option maxHeartbeats 2000000 in
set_option maxRecDepth 100000 in
theorem cmpD_calls (a b : Int) (b1 : Nat) (t : Addr) (x : List S106) (w : World) (hT : TrieAt w t x) (hb : w.cell? ⟨b1, 0, none⟩ = some (.pointer (some t))) :
    Calls Try.prog 81 #[.int .i64 a, .int .i64 b, .pointer (some ⟨b1, 0, none⟩)] w fun e w' => e = .returned (.int .i64 (cmpD x a b)) ∧ Grows w w' := by
  have HT := Aside0.mk hT
  clear hT
  obtain ⟨d, hd⟩ : ∃ d, d = IntKind.i64.wrap ((nodeOf x a).f2 - (nodeOf x b).f2) := ⟨_, rfl⟩
  have HD := Aside0.mk hd
  have hc : cmpD x a b = if d = 0 then wrap64 (a - b) else d := by rw [hd]; rfl
  have HC := Aside0.mk hc
  clear hc hd
  have mixed : Try.prog.follows Departure.mixedOrders = true := by kernel_rfl
  go_enter Try.func81, Try.ntmps81
  go_wp2
  go_region_held3 (fun w' => w'.cell? ⟨b1, 0, none⟩ = some (.pointer (some t)))
    (first | exact hb | assumption | go_keep)
    (first | (go_simp; go_at_call 41; refine (depth_calls t x a _ (HT.out.grows ((Grows.refl w).drewN 1))).mono ?_; rintro e w2 ⟨rfl, hg2⟩; have k2 := cell_grows hg2 hb; have G2 := Aside0.mk (((Grows.refl w).drewN 1).trans hg2); clear hg2) | (go_simp; go_at_call 41; refine (depth_calls t x b _ (HT.out.grows G2.out)).mono ?_; rintro e w3 ⟨rfl, hg3⟩; have k3 := cell_grows hg3 k2; have G3 := Aside0.mk (G2.out.trans hg3); clear hg3))
  rw [show IntKind.i64.wrap ((nodeOf x a).f2 - (nodeOf x b).f2) = d from HD.out.symm]
  by_cases h0 : d = 0
  · have HC2 := Aside0.mk (HC.out.trans (if_pos h0))
    subst h0
    go_wp2
    go_ret
    exact ⟨by rw [HC2.out]; rfl, G3.out⟩
  · have HC2 := Aside0.mk (HC.out.trans (if_neg h0))
    go_wp2
    go_ret
    exact ⟨by rw [HC2.out]; rfl, G3.out⟩

/-- A row that is being sorted. -/
structure Srt (w0 w : World) (b1 gd cap : Nat) (t : Addr) (x : List S106) (xs : List Int) : Prop where
  tr : TrieAt w0 t x
  bw : Go.RowKit.Below w0.heap.size w0 w
  bx : w.cell? ⟨b1, 0, none⟩ = some (.pointer (some t))
  nb : b1 ≠ gd
  row : w.ownsRow w0.heap.size 3 1 (.slice (some ⟨gd, 0, none⟩) xs.length cap) xs.length (encI xs)
def swapL (l : List Int) (i j : Nat) : List Int := (l.set i (l.getD j 0)).set j (l.getD i 0)
theorem swapL_eq (l : List Int) (i j : Nat) (hi : i < l.length) (hj : j < l.length) : swapL l i j = (l.set i l[j]).set j l[i] := by
  unfold swapL
  rw [List.getD_eq_getElem?_getD, List.getD_eq_getElem?_getD, List.getElem?_eq_getElem hi, List.getElem?_eq_getElem hj]; rfl
theorem swapL_len (l : List Int) (i j : Nat) : (swapL l i j).length = l.length := by simp [swapL]
theorem swapL_perm (l : List Int) (i j : Nat) (hi : i < l.length) (hj : j < l.length) : (swapL l i j).Perm l := by
  have h := List.set_set_perm hi hj
  unfold swapL
  rw [List.getD_eq_getElem?_getD, List.getD_eq_getElem?_getD, List.getElem?_eq_getElem hi, List.getElem?_eq_getElem hj]
  exact h
section
variable {w0 w : World} {b1 gd cap : Nat} {t : Addr} {x : List S106} {xs : List Int}
theorem Srt.grows {w1 : World} (h : Srt w0 w b1 gd cap t x xs) (hg : Grows w w1) : Srt w0 w1 b1 gd cap t x xs := ⟨h.tr, h.bw.trans (hg.below.mono h.bw.size), cell_grows hg h.bx, h.nb, pw_own_below h.row hg.below⟩
theorem Srt.at_ (h : Srt w0 w b1 gd cap t x xs) (i : Nat) (hi : i < xs.length) : w.cell? ⟨gd, i, none⟩ = some (.int .i64 xs[i]) := own_cells h.row (encI_at xs i hi)
theorem Srt.fz (h : Srt w0 w b1 gd cap t x xs) (i : Nat) : w.frozen? ⟨gd, i, none⟩ = false := own_frozen h.row i
theorem Srt.set (h : Srt w0 w b1 gd cap t x xs) (i : Nat) (v : Int) : Srt w0 (w.setCell ⟨gd, i, none⟩ (.int .i64 v)) b1 gd cap t x (xs.set i v) ∧ w.grownBy (w.setCell ⟨gd, i, none⟩ (.int .i64 v)) (some gd) := by
  obtain ⟨r1, g1⟩ := own_set h.row i (.int .i64 v)
  refine ⟨⟨h.tr, h.bw.setCell (p := ⟨gd, i, none⟩) (own_sz h.row) _, cell_set_far' h.bx h.nb, h.nb, by rw [List.length_set, ← encI_set]; exact r1⟩, g1⟩
end

theorem grows_grownTo {w w' : World} (h : Grows w w') (row : Option Nat) : w.grownBy w' row := grown_of_below h.below row
set_option maxHeartbeats 8000000 in
set_option maxRecDepth 100000 in
theorem ins_calls (w0 w : World) (b1 gd cap : Nat) (t : Addr) (x : List S106) (xs : List Int) (a b : Nat) (hS : Srt w0 w b1 gd cap t x xs) (hab : a ≤ b) (hb : b ≤ xs.length) (hlen : xs.length ≤ 1000000000000) :
    Calls Try.prog 122 #[.slice (some ⟨gd, 0, none⟩) xs.length cap, .int .i64 a, .int .i64 b, .func (.func 81) #[] #[.pointer (some ⟨b1, 0, none⟩)]] w fun e w' => e = .returned (.tuple #[]) ∧ ∃ ys : List Int, Srt w0 w' b1 gd cap t x ys ∧ ys.Perm xs ∧ w.grownBy w' (some gd) := by
  have HS := Aside0.mk hS
  clear hS
  have mixed : Try.prog.follows Departure.mixedOrders = true := by kernel_rfl
  go_enter Try.func122, Try.ntmps122
  go_wp2
  go_loopw [8] (fun iv wr => ∃ (i : Nat) (ys : List Int), iv = .int .i64 i ∧ i ≤ xs.length + 1 ∧ Srt w0 wr b1 gd cap t x ys ∧ ys.Perm xs ∧ w.grownBy wr (some gd)) (fun iv wr => xs.length + 1 - (intOf iv).toNat)
  case atStart =>
    exact ⟨a + 1, xs, by go_num, by omega, HS.out, List.Perm.refl _, ⟨rfl, rfl, rfl, Nat.le_refl _, fun _ _ _ => rfl⟩⟩
  case round =>
    obtain ⟨i, ys, rfl, hi, hS, hp, hg⟩ := hrel
    have HR := Aside0.mk (And.intro hS (And.intro hp hg))
    clear hS hp hg
    by_cases hlt : (i : Int) < (b : Int)
    · go_wp2
      go_loopw [9] (fun jv wq => ∃ (j : Nat) (zs : List Int), jv = .int .i64 j ∧ j ≤ i ∧ Srt w0 wq b1 gd cap t x zs ∧ zs.Perm xs ∧ w.grownBy wq (some gd)) (fun jv wq => (intOf jv).toNat)
      case atStart => exact ⟨i, ys, rfl, Nat.le_refl _, HR.out.1, HR.out.2.1, HR.out.2.2⟩
      case round =>
        obtain ⟨j, zs, rfl, hj, hS, hp, hg⟩ := hrel
        have hzl : zs.length = xs.length := hp.length_eq
        by_cases hja : (a : Int) < (j : Int)
        · obtain ⟨m, rfl⟩ : ∃ m, j = m + 1 := ⟨j - 1, by omega⟩
          have d1 := hS.at_ (m + 1) (by omega)
          have d0 := hS.at_ m (by omega)
          have z1 := hS.fz (m + 1)
          have z0 := hS.fz m
          have i6 : IntKind.i64.wrap ((m : Int) + 1 - 1) = (m : Int) := by rw [IntWalk.i64_in _ (by omega)]; omega
          have i7 : IntKind.i64.wrap (m : Int) = (m : Int) := IntWalk.i64_in _ (by omega)
          have il : (m : Int) + 1 < (xs.length : Int) := by omega
          have il0 : (m : Int) < (xs.length : Int) := by omega
          have il0n : m < xs.length := by omega
          have il0z : (0 : Int) ≤ (m : Int) + 1 := by omega
          have ga : (a : Int) < (m : Int) + 1 := by omega
          have gb : decide ((a : Int) < (m : Int) + 1) = true := decide_eq_true ga
          have HQ := Aside0.mk (And.intro hS (And.intro hp hg))
          clear hS hp hg
          obtain ⟨r, hr⟩ : ∃ r, r = cmpD x (zs[m + 1]'(by omega)) (zs[m]'(by omega)) := ⟨_, rfl⟩
          have HRr := Aside0.mk hr
          clear hr
          go_wp2_with fail
          go_region_held3 (fun w' => w'.cell? ⟨gd, m + 1, none⟩ = some (.int .i64 (zs[m + 1]'(by omega))) ∧ w'.cell? ⟨gd, m, none⟩ = some (.int .i64 (zs[m]'(by omega))))
            (first | exact ⟨d1, d0⟩ | (exact ⟨cell_grows G2.out d1, cell_grows G2.out d0⟩) | go_keep)
            ((go_simp; go_at_call 81; refine (cmpD_calls _ _ b1 t x _ (HQ.out.1.tr.below (HQ.out.1.grows ((Grows.refl wr).drewN 1)).bw) (HQ.out.1.grows ((Grows.refl wr).drewN 1)).bx).mono ?_; rw [← HRr.out]; rintro e w2 ⟨rfl, hg2⟩; have G2 := Aside0.mk (((Grows.refl wr).drewN 1).trans hg2); clear hg2))
          have S2 := Aside0.mk (HQ.out.1.grows G2.out)
          have HG2 := Aside0.mk (HQ.out.2.2.trans (grows_grownTo G2.out (some gd)))
          by_cases hr0 : r < 0
          · have hd : decide (r < 0) = true := decide_eq_true hr0
            have c1 := S2.out.at_ (m + 1) (by omega)
            have c0 := S2.out.at_ m (by omega)
            have y1 := S2.out.fz (m + 1)
            have y0 := S2.out.fz m
            go_wp2
            go_region
            all_goals go_wp2
            all_goals (
              obtain ⟨s3, g3⟩ := S2.out.set (m + 1) (zs[m]'(by omega))
              obtain ⟨s4, g4⟩ := s3.set m (zs[m + 1]'(by omega))
              refine ⟨⟨m, swapL zs (m + 1) m, rfl, by omega, ?_, (swapL_perm zs (m + 1) m (by omega) (by omega)).trans HQ.out.2.1, ?_⟩, by simp only [intOf]; omega⟩
              · rw [swapL_eq zs (m + 1) m (by omega) (by omega)]; exact s4.grows ((Grows.refl _).drewN 1)
              · exact (HG2.out.trans (g3.trans g4)).trans (grows_grownTo ((Grows.refl _).drewN 1) (some gd)))
          · have hd : decide (r < 0) = false := decide_eq_false hr0
            go_wp2
            exact ⟨⟨i + 1, zs, by go_num, by omega, S2.out, HQ.out.2.1, HG2.out⟩, by simp only [intOf]; omega⟩
        · have gb : decide ((a : Int) < (j : Int)) = false := decide_eq_false hja
          have ga : j ≤ a := by omega
          have gc : ¬ a < j := by omega
          have ge : decide (a < j) = false := decide_eq_false gc
          have HQ := Aside0.mk (And.intro hS (And.intro hp hg))
          clear hS hp hg
          go_wp2_with fail
          go_quiet (fail)
          go_wp2
          exact ⟨⟨i + 1, zs, by go_num, by omega, HQ.out.1.grows ((Grows.refl _).drewN _), HQ.out.2.1, HQ.out.2.2.trans (grows_grownTo ((Grows.refl _).drewN _) (some gd))⟩, by simp only [intOf]; omega⟩
    · go_wp2
      go_end0
      exact ⟨rfl, ys, HR.out.1, HR.out.2.1, HR.out.2.2⟩
end Go.Proofs.Ytgfmplhpoblleaa.FailW
end
section
/- slices.SortStableFunc: swapRange, rotate. -/
namespace Go.Proofs.Ytgfmplhpoblleaa.FailW
open Go.RowKit Go.Shelf Go.Lib Go.Proofs Go.Proofs.YtgfmplhpoblleaaW.PrintWords Go.Proofs.YtgfmplhpoblleaaW.PrintLast Go.Proofs.YtgfmplhpoblleaaW.PrintMore Go.Proofs.Ytgfmplhpoblleaa.PRank Go.Proofs.Ytgfmplhpoblleaa.PFB Go.Proofs.Ytgfmplhpoblleaa.RankW Go.Proofs.Ytgfmplhpoblleaa.SortOwn Go.Proofs.Ytgfmplhpoblleaa
open Go.Proofs.Ytgfmplhpoblleaa.Cmps hiding dedup
set_option linter.unusedVariables false
set_option linter.unusedSimpArgs false

set_option maxHeartbeats 8000000 in
set_option maxRecDepth 100000 in
theorem swr_calls (w0 w : World) (b1 gd cap : Nat) (t : Addr) (x : List S106) (xs : List Int) (a b n : Nat) (f : Value) (N : Nat) (hN : xs.length = N) (hS : Srt w0 w b1 gd cap t x xs) (hab : a < b) (hb : b + n ≤ N) (hlen : N ≤ 1000000000000) :
    Calls Try.prog 155 #[.slice (some ⟨gd, 0, none⟩) N cap, .int .i64 a, .int .i64 b, .int .i64 n, f] w fun e w' => e = .returned (.tuple #[]) ∧ ∃ ys : List Int, Srt w0 w' b1 gd cap t x ys ∧ ys.Perm xs ∧ w.grownBy w' (some gd) := by
  have HS := Aside0.mk hS
  clear hS
  have mixed : Try.prog.follows Departure.mixedOrders = true := by kernel_rfl
  go_enter Try.func155, Try.ntmps155
  go_wp2
  go_loopw [10] (fun iv wr => ∃ (k : Nat) (ys : List Int), iv = .int .i64 k ∧ k ≤ n ∧ Srt w0 wr b1 gd cap t x ys ∧ ys.Perm xs ∧ w.grownBy wr (some gd)) (fun iv wr => n - (intOf iv).toNat)
  case atStart =>
    exact ⟨0, xs, rfl, Nat.zero_le _, HS.out, List.Perm.refl _, ⟨rfl, rfl, rfl, Nat.le_refl _, fun _ _ _ => rfl⟩⟩
  case round =>
    obtain ⟨k, ys, rfl, hk, hS, hp, hg⟩ := hrel
    have hzl : ys.length = N := hp.length_eq.trans hN
    by_cases hlt : k < n
    · obtain ⟨va, hva⟩ : ∃ va, va = ys[a + k]'(by omega) := ⟨_, rfl⟩
      obtain ⟨vb, hvb⟩ : ∃ vb, vb = ys[b + k]'(by omega) := ⟨_, rfl⟩
      have c1 := hS.at_ (a + k) (by omega)
      have c0 := hS.at_ (b + k) (by omega)
      rw [← hva] at c1
      rw [← hvb] at c0
      have y1 := hS.fz (a + k)
      have y0 := hS.fz (b + k)
      have i1 : IntKind.i64.wrap ((a : Int) + (k : Int)) = (a : Int) + (k : Int) := IntWalk.i64_in _ (by omega)
      have i2 : IntKind.i64.wrap ((b : Int) + (k : Int)) = (b : Int) + (k : Int) := IntWalk.i64_in _ (by omega)
      have i3 : (0 : Int) ≤ (a : Int) + (k : Int) := by omega
      have i4 : (0 : Int) ≤ (b : Int) + (k : Int) := by omega
      have i5 : (a : Int) + (k : Int) < (N : Int) := by omega
      have i6 : (b : Int) + (k : Int) < (N : Int) := by omega
      have i7 : ((a : Int) + (k : Int)).toNat = a + k := by omega
      have i8 : ((b : Int) + (k : Int)).toNat = b + k := by omega
      have n1 : ¬ a = b := by omega
      have n2 : ¬ b = a := by omega
      have n3 : ¬ a + k = b + k := by omega
      have n4 : ¬ b + k = a + k := by omega
      have ilt : (k : Int) < (n : Int) := by omega
      have HQ := Aside0.mk (And.intro hS (And.intro hp hg))
      have HB := Aside0.mk (And.intro hva hvb)
      clear hS hp hg hva hvb
      go_wp2
      go_region
      all_goals go_wp2
      all_goals (
        obtain ⟨hva, hvb⟩ := HB.out
        obtain ⟨s3, g3⟩ := HQ.out.1.set (a + k) vb
        obtain ⟨s4, g4⟩ := s3.set (b + k) va
        refine ⟨⟨k + 1, swapL ys (a + k) (b + k), by go_num, by omega, ?_, (swapL_perm ys (a + k) (b + k) (by omega) (by omega)).trans HQ.out.2.1, ?_⟩, by simp only [intOf]; omega⟩
        · rw [swapL_eq ys (a + k) (b + k) (by omega) (by omega), ← hva, ← hvb]; exact s4.grows ((Grows.refl _).drewN 1)
        · exact (HQ.out.2.2.trans (g3.trans g4)).trans (grows_grownTo ((Grows.refl _).drewN 1) (some gd)))
    · have hkn : ¬ ((k : Int) < (n : Int)) := by omega
      have HQ := Aside0.mk (And.intro hS (And.intro hp hg))
      clear hS hp hg
      go_wp2
      go_end0
      exact ⟨rfl, ys, HQ.out.1, HQ.out.2.1, HQ.out.2.2⟩

set_option maxHeartbeats 4000000 in
set_option maxRecDepth 100000 in
theorem rot_calls (w0 w : World) (b1 gd cap : Nat) (t : Addr) (x : List S106) (xs : List Int) (a m b : Nat) (f : Value) (N : Nat) (hN : xs.length = N) (hS : Srt w0 w b1 gd cap t x xs) (ham : a < m) (hmb : m < b) (hb : b ≤ N) (hlen : N ≤ 1000000000000) :
    Calls Try.prog 141 #[.slice (some ⟨gd, 0, none⟩) N cap, .int .i64 a, .int .i64 m, .int .i64 b, f] w fun e w' => e = .returned (.tuple #[]) ∧ ∃ ys : List Int, Srt w0 w' b1 gd cap t x ys ∧ ys.Perm xs ∧ w.grownBy w' (some gd) := by
  have HS := Aside0.mk hS
  clear hS
  have q1 : IntKind.i64.wrap ((m : Int) - (a : Int)) = ((m - a : Nat) : Int) := by rw [IntWalk.i64_in _ (by omega)]; omega
  have q2 : IntKind.i64.wrap ((b : Int) - (m : Int)) = ((b - m : Nat) : Int) := by rw [IntWalk.i64_in _ (by omega)]; omega
  go_enter Try.func141, Try.ntmps141
  go_wp2
  go_loopw [10, 11] (fun iv jv wr => ∃ (i j : Nat) (ys : List Int), iv = .int .i64 i ∧ jv = .int .i64 j ∧ 1 ≤ i ∧ 1 ≤ j ∧ i ≤ m - a ∧ j ≤ b - m ∧ Srt w0 wr b1 gd cap t x ys ∧ ys.Perm xs ∧ w.grownBy wr (some gd)) (fun iv jv wr => (intOf iv).toNat + (intOf jv).toNat)
  case atStart =>
    exact ⟨m - a, b - m, xs, by first | rfl | rw [q1] | (simp only [q1]), by first | rfl | rw [q2] | (simp only [q2]), by omega, by omega, Nat.le_refl _, Nat.le_refl _, HS.out, List.Perm.refl _, ⟨rfl, rfl, rfl, Nat.le_refl _, fun _ _ _ => rfl⟩⟩
  case round =>
    obtain ⟨i, j, ys, rfl, rfl, hi, hj, hia, hjb, hS, hp, hg⟩ := hrel
    have hzl : ys.length = N := hp.length_eq.trans hN
    have HQ := Aside0.mk (And.intro hS (And.intro hp hg))
    have r1 : IntKind.i64.wrap ((m : Int) - (i : Int)) = ((m - i : Nat) : Int) := by rw [IntWalk.i64_in _ (by omega)]; omega
    have r2 : IntKind.i64.wrap ((m : Int) + (j : Int)) = (m : Int) + (j : Int) := IntWalk.i64_in _ (by omega)
    clear hS hp hg q1 q2
    by_cases hij : i = j
    · subst hij
      have W1 := Aside0.mk (And.intro hi (And.intro hia (And.intro hjb (And.intro ham (And.intro hmb (And.intro hb (And.intro hlen hzl)))))))
      clear hi hj hia hjb ham hmb hb hlen hzl hN r2
      go_wp2_with ((go_at_call 155; refine (swr_calls w0 _ b1 gd cap t x ys (m - i) m i _ N W1.out.2.2.2.2.2.2.2 HQ.out.1 (by have := W1.out; omega) (by have := W1.out; omega) (by have := W1.out; omega)).mono ?_; rintro e w2 ⟨rfl, zs, hz2, hzp, hzg⟩; have HZ := Aside0.mk (And.intro hz2 (And.intro hzp hzg)); clear hz2 hzp hzg))
      go_end0
      exact ⟨rfl, zs, HZ.out.1, HZ.out.2.1.trans HQ.out.2.1, HQ.out.2.2.trans HZ.out.2.2⟩
    · by_cases hgt : j < i
      · have r4 : IntKind.i64.wrap ((i : Int) - (j : Int)) = ((i - j : Nat) : Int) := by rw [IntWalk.i64_in _ (by omega)]; omega
        have W1 := Aside0.mk (And.intro hi (And.intro hj (And.intro hia (And.intro hjb (And.intro ham (And.intro hmb (And.intro hb (And.intro hlen hzl))))))))
        have d2 : (j : Int) < (i : Int) := by omega
        clear hi hj hia hjb ham hmb hb hlen hzl hN r2
        go_wp2_with ((go_at_call 155; refine (swr_calls w0 _ b1 gd cap t x ys (m - i) m j _ N W1.out.2.2.2.2.2.2.2.2 HQ.out.1 (by have := W1.out; omega) (by have := W1.out; omega) (by have := W1.out; omega)).mono ?_; rintro e w2 ⟨rfl, zs, hz2, hzp, hzg⟩; have HZ := Aside0.mk (And.intro hz2 (And.intro hzp hzg)); clear hz2 hzp hzg))
        refine ⟨⟨i - j, j, zs, rfl, rfl, by omega, by have := W1.out; omega, by have := W1.out; omega, by have := W1.out; omega, HZ.out.1, HZ.out.2.1.trans HQ.out.2.1, HQ.out.2.2.trans HZ.out.2.2⟩, by have := W1.out; simp only [intOf]; omega⟩
      · have r4 : IntKind.i64.wrap ((j : Int) - (i : Int)) = ((j - i : Nat) : Int) := by rw [IntWalk.i64_in _ (by omega)]; omega
        have r3 : IntKind.i64.wrap ((m : Int) + (j : Int) - (i : Int)) = ((m + j - i : Nat) : Int) := by rw [IntWalk.i64_in _ (by omega)]; omega
        have W1 := Aside0.mk (And.intro hi (And.intro hj (And.intro hia (And.intro hjb (And.intro ham (And.intro hmb (And.intro hb (And.intro hlen hzl))))))))
        have d2 : ¬ ((j : Int) < (i : Int)) := by omega
        clear hi hj hia hjb ham hmb hb hlen hzl hN
        go_wp2_with ((go_at_call 155; refine (swr_calls w0 _ b1 gd cap t x ys (m - i) (m + j - i) i _ N W1.out.2.2.2.2.2.2.2.2 HQ.out.1 (by have := W1.out; omega) (by have := W1.out; omega) (by have := W1.out; omega)).mono ?_; rintro e w2 ⟨rfl, zs, hz2, hzp, hzg⟩; have HZ := Aside0.mk (And.intro hz2 (And.intro hzp hzg)); clear hz2 hzp hzg))
        refine ⟨⟨i, j - i, zs, rfl, rfl, by have := W1.out; omega, by omega, by have := W1.out; omega, by have := W1.out; omega, HZ.out.1, HZ.out.2.1.trans HQ.out.2.1, HQ.out.2.2.trans HZ.out.2.2⟩, by have := W1.out; simp only [intOf]; omega⟩
end Go.Proofs.Ytgfmplhpoblleaa.FailW
end
section
/- slices.SortStableFunc: symMerge. -/
namespace Go.Proofs.Ytgfmplhpoblleaa.FailW
open Go.RowKit Go.Shelf Go.Lib Go.Proofs Go.Proofs.YtgfmplhpoblleaaW.PrintWords Go.Proofs.YtgfmplhpoblleaaW.PrintLast Go.Proofs.YtgfmplhpoblleaaW.PrintMore Go.Proofs.Ytgfmplhpoblleaa.PRank Go.Proofs.Ytgfmplhpoblleaa.PFB Go.Proofs.Ytgfmplhpoblleaa.RankW Go.Proofs.Ytgfmplhpoblleaa.SortOwn Go.Proofs.Ytgfmplhpoblleaa
open Go.Proofs.Ytgfmplhpoblleaa.Cmps hiding dedup
set_option linter.unusedVariables false
set_option linter.unusedSimpArgs false

/-- What a call of symMerge does. -/
def SymDoes (w0 : World) (b1 gd cap : Nat) (t : Addr) (x : List S106) (N : Nat) (w : World) (xs : List Int) (a m b : Nat) : Prop :=
  Calls Try.prog 123 #[.slice (some ⟨gd, 0, none⟩) N cap, .int .i64 a, .int .i64 m, .int .i64 b, .func (.func 81) #[] #[.pointer (some ⟨b1, 0, none⟩)]] w fun e w' => e = .returned (.tuple #[]) ∧ ∃ ys : List Int, Srt w0 w' b1 gd cap t x ys ∧ ys.Perm xs ∧ w.grownBy w' (some gd)

theorem grownBy_refl (w : World) (row : Option Nat) : w.grownBy w row := ⟨rfl, rfl, rfl, Nat.le_refl _, fun _ _ _ => rfl⟩
set_option maxHeartbeats 4000000 in
set_option maxRecDepth 100000 in
/-- One element ahead. -/
theorem sym_one (w0 w : World) (b1 gd cap : Nat) (t : Addr) (x : List S106) (xs : List Int) (a m b : Nat) (N : Nat) (hN : xs.length = N) (hS : Srt w0 w b1 gd cap t x xs) (hm : m = a + 1) (hmb : m < b) (hb : b ≤ N) (hlen : N ≤ 1000000000000) : SymDoes w0 b1 gd cap t x N w xs a m b := by
  unfold SymDoes
  have HS := Aside0.mk hS
  clear hS
  have mixed : Try.prog.follows Departure.mixedOrders = true := by kernel_rfl
  have q1 : IntKind.i64.wrap ((m : Int) - (a : Int)) = 1 := by rw [IntWalk.i64_in _ (by omega)]; omega
  have ham : a < m := by omega
  clear hm
  go_enter Try.func123, Try.ntmps123
  go_wp2
  go_loopw [10, 11] (fun iv jv wr => ∃ (i j : Nat), iv = .int .i64 i ∧ jv = .int .i64 j ∧ m ≤ i ∧ i ≤ j ∧ j ≤ b ∧ Srt w0 wr b1 gd cap t x xs ∧ w.grownBy wr (some gd)) (fun iv jv wr => (intOf jv).toNat - (intOf iv).toNat)
  case atStart =>
    exact ⟨m, b, rfl, rfl, Nat.le_refl _, by omega, Nat.le_refl _, HS.out, grownBy_refl _ _⟩
  case round =>
    obtain ⟨i, j, rfl, rfl, hi, hij, hj, hS, hg⟩ := hrel
    by_cases hlt : i < j
    · obtain ⟨va, hva⟩ : ∃ va, va = xs[(i + j) / 2]'(by omega) := ⟨_, rfl⟩
      obtain ⟨vb, hvb⟩ : ∃ vb, vb = xs[a]'(by omega) := ⟨_, rfl⟩
      have c1 := hS.at_ ((i + j) / 2) (by omega)
      have c0 := hS.at_ a (by omega)
      rw [← hva] at c1
      rw [← hvb] at c0
      have ia : (a : Int) < (N : Int) := by omega
      have ih : ((i : Int) + (j : Int)) / 2 < (N : Int) := by omega
      have iz : (0 : Int) ≤ ((i : Int) + (j : Int)) / 2 := by omega
      have it : (((i : Int) + (j : Int)) / 2).toNat = (i + j) / 2 := by omega
      have ihn : (i + j) / 2 < N := by omega
      have HQ := Aside0.mk (And.intro hS hg)
      obtain ⟨r, hr⟩ : ∃ r, r = cmpD x va vb := ⟨_, rfl⟩
      have HRr := Aside0.mk hr
      clear hS hg hva hvb hr
      go_wp2_with fail
      go_region_held3 (fun w' => w'.cell? ⟨gd, (i + j) / 2, none⟩ = some (.int .i64 va) ∧ w'.cell? ⟨gd, a, none⟩ = some (.int .i64 vb))
        (first | exact ⟨c1, c0⟩ | (exact ⟨cell_grows G2.out c1, cell_grows G2.out c0⟩) | go_keep)
        ((go_simp; go_at_call 81; refine (cmpD_calls _ _ b1 t x _ (HQ.out.1.tr.below (HQ.out.1.grows ((Grows.refl wr).drewN 1)).bw) (HQ.out.1.grows ((Grows.refl wr).drewN 1)).bx).mono ?_; rw [← HRr.out]; rintro e w2 ⟨rfl, hg2⟩; have G2 := Aside0.mk (((Grows.refl wr).drewN 1).trans hg2); clear hg2))
      have S2 := Aside0.mk (HQ.out.1.grows G2.out)
      have HG2 := Aside0.mk (HQ.out.2.trans (grows_grownTo G2.out (some gd)))
      by_cases hr0 : r < 0
      · have hd : decide (r < 0) = true := decide_eq_true hr0
        go_wp2
        go_roundw
        case rel => exact ⟨(i + j) / 2 + 1, j, by go_num, rfl, by omega, by omega, hj, S2.out, HG2.out⟩
        case measure => simp [intOf]; omega
      · have hd : decide (r < 0) = false := decide_eq_false hr0
        go_wp2
        go_roundw
        case rel => exact ⟨i, (i + j) / 2, rfl, by go_num, hi, by omega, by omega, S2.out, HG2.out⟩
        case measure => simp [intOf]; omega
    · have q2 : IntKind.i64.wrap ((i : Int) - 1) = ((i - 1 : Nat) : Int) := by rw [IntWalk.i64_in _ (by omega)]; omega
      have HQ := Aside0.mk (And.intro hS hg)
      have hij' : ¬ ((i : Int) < (j : Int)) := by omega
      clear hS hg
      go_wp2
      go_loopw [13] (fun kv wq => ∃ (k : Nat) (ys : List Int), kv = .int .i64 k ∧ Srt w0 wq b1 gd cap t x ys ∧ ys.Perm xs ∧ w.grownBy wq (some gd)) (fun kv wq => i - (intOf kv).toNat)
      case atStart => exact ⟨a, xs, rfl, HQ.out.1, List.Perm.refl _, HQ.out.2⟩
      case round =>
        obtain ⟨k, ys, rfl, hS, hp, hg⟩ := hrel
        have hyl : ys.length = N := hp.length_eq.trans hN
        by_cases hk : k < i - 1
        · obtain ⟨va, hva⟩ : ∃ va, va = ys[k]'(by omega) := ⟨_, rfl⟩
          obtain ⟨vb, hvb⟩ : ∃ vb, vb = ys[k + 1]'(by omega) := ⟨_, rfl⟩
          have c1 := hS.at_ k (by omega)
          have c0 := hS.at_ (k + 1) (by omega)
          rw [← hva] at c1
          rw [← hvb] at c0
          have y1 := hS.fz k
          have y0 := hS.fz (k + 1)
          have i1 : (k : Int) < (N : Int) := by omega
          have i2 : (k : Int) + 1 < (N : Int) := by omega
          have i3 : (k : Int) < ((i - 1 : Nat) : Int) := by omega
          have HZ := Aside0.mk (And.intro hS (And.intro hp (And.intro hg (And.intro hva hvb))))
          clear hS hp hg hva hvb
          go_wp2
          go_region
          all_goals go_wp2
          all_goals (
            obtain ⟨hS, hp, hg, hva, hvb⟩ := HZ.out
            obtain ⟨s3, g3⟩ := hS.set k vb
            obtain ⟨s4, g4⟩ := s3.set (k + 1) va
            refine ⟨⟨k + 1, swapL ys k (k + 1), by go_num, ?_, (swapL_perm ys k (k + 1) (by omega) (by omega)).trans hp, ?_⟩, by simp only [intOf]; omega⟩
            · rw [swapL_eq ys k (k + 1) (by omega) (by omega), ← hva, ← hvb]; exact s4.grows ((Grows.refl _).drewN 1)
            · exact (hg.trans (g3.trans g4)).trans (grows_grownTo ((Grows.refl _).drewN 1) (some gd)))
        · have i3 : ¬ ((k : Int) < ((i - 1 : Nat) : Int)) := by omega
          have HZ := Aside0.mk (And.intro hS (And.intro hp hg))
          clear hS hp hg
          go_wp2
          refine bodyPost_ret (results_none rfl _ _ _) rfl ?_
          exact ⟨rfl, ys, HZ.out.1, HZ.out.2.1, HZ.out.2.2⟩
set_option maxHeartbeats 4000000 in
set_option maxRecDepth 100000 in
/-- One element behind. -/
theorem sym_last (w0 w : World) (b1 gd cap : Nat) (t : Addr) (x : List S106) (xs : List Int) (a m b : Nat) (N : Nat) (hN : xs.length = N) (hS : Srt w0 w b1 gd cap t x xs) (ham : a + 1 < m) (hm : b = m + 1) (hb : b ≤ N) (hlen : N ≤ 1000000000000) : SymDoes w0 b1 gd cap t x N w xs a m b := by
  unfold SymDoes
  have HS := Aside0.mk hS
  clear hS
  have mixed : Try.prog.follows Departure.mixedOrders = true := by kernel_rfl
  obtain ⟨d, hd⟩ : ∃ d, d = m - a := ⟨_, rfl⟩
  have q1 : IntKind.i64.wrap ((m : Int) - (a : Int)) = (d : Int) := by rw [IntWalk.i64_in _ (by omega)]; omega
  have q2 : ¬ ((d : Int) = 1) := by omega
  have q2b : ((d : Int) == 1) = false := by simp; omega
  have q2c : ¬ (d = 1) := by omega
  have q3 : IntKind.i64.wrap ((b : Int) - (m : Int)) = 1 := by rw [IntWalk.i64_in _ (by omega)]; omega
  have hmb : m < b := by omega
  have hda : a < m := by omega
  clear hm hd ham
  go_enter Try.func123, Try.ntmps123
  go_wp2
  go_loopw [14, 15] (fun iv jv wr => ∃ (i j : Nat), iv = .int .i64 i ∧ jv = .int .i64 j ∧ a ≤ i ∧ i ≤ j ∧ j ≤ m ∧ Srt w0 wr b1 gd cap t x xs ∧ w.grownBy wr (some gd)) (fun iv jv wr => (intOf jv).toNat - (intOf iv).toNat)
  case atStart =>
    exact ⟨a, m, rfl, rfl, Nat.le_refl _, by omega, Nat.le_refl _, HS.out, grownBy_refl _ _⟩
  case round =>
    obtain ⟨i, j, rfl, rfl, hi, hij, hj, hS, hg⟩ := hrel
    by_cases hlt : i < j
    · obtain ⟨vb, hvb⟩ : ∃ vb, vb = xs[(i + j) / 2]'(by omega) := ⟨_, rfl⟩
      obtain ⟨va, hva⟩ : ∃ va, va = xs[m]'(by omega) := ⟨_, rfl⟩
      have c0 := hS.at_ ((i + j) / 2) (by omega)
      have c1 := hS.at_ m (by omega)
      rw [← hva] at c1
      rw [← hvb] at c0
      have ia : (m : Int) < (N : Int) := by omega
      have ih : ((i : Int) + (j : Int)) / 2 < (N : Int) := by omega
      have iz : (0 : Int) ≤ ((i : Int) + (j : Int)) / 2 := by omega
      have it : (((i : Int) + (j : Int)) / 2).toNat = (i + j) / 2 := by omega
      have ihn : (i + j) / 2 < N := by omega
      have HQ := Aside0.mk (And.intro hS hg)
      obtain ⟨r, hr⟩ : ∃ r, r = cmpD x va vb := ⟨_, rfl⟩
      have HRr := Aside0.mk hr
      clear hS hg hva hvb hr
      go_wp2_with fail
      go_region_held3 (fun w' => w'.cell? ⟨gd, m, none⟩ = some (.int .i64 va) ∧ w'.cell? ⟨gd, (i + j) / 2, none⟩ = some (.int .i64 vb))
        (first | exact ⟨c1, c0⟩ | (exact ⟨cell_grows G2.out c1, cell_grows G2.out c0⟩) | go_keep)
        ((go_simp; go_at_call 81; refine (cmpD_calls _ _ b1 t x _ (HQ.out.1.tr.below (HQ.out.1.grows ((Grows.refl wr).drewN 1)).bw) (HQ.out.1.grows ((Grows.refl wr).drewN 1)).bx).mono ?_; rw [← HRr.out]; rintro e w2 ⟨rfl, hg2⟩; have G2 := Aside0.mk (((Grows.refl wr).drewN 1).trans hg2); clear hg2))
      have S2 := Aside0.mk (HQ.out.1.grows G2.out)
      have HG2 := Aside0.mk (HQ.out.2.trans (grows_grownTo G2.out (some gd)))
      obtain ⟨bb, hbb⟩ : ∃ bb, decide (r < 0) = bb := ⟨_, rfl⟩
      have hbb2 : decide (0 ≤ r) = !bb := by
        rw [← hbb]
        by_cases h0 : r < 0
        · simp [h0]
        · simp [h0]; omega
      simp only [hbb, hbb2]
      clear hbb hbb2
      cases bb with
      | true =>
        go_wp2
        go_roundw
        case rel => exact ⟨i, (i + j) / 2, rfl, by go_num, hi, by omega, by omega, S2.out, HG2.out⟩
        case measure => simp [intOf]; omega
      | false =>
        go_wp2
        go_roundw
        case rel => exact ⟨(i + j) / 2 + 1, j, by go_num, rfl, by omega, by omega, hj, S2.out, HG2.out⟩
        case measure => simp [intOf]; omega
    · have HQ := Aside0.mk (And.intro hS hg)
      have hij' : ¬ ((i : Int) < (j : Int)) := by omega
      clear hS hg
      go_wp2
      go_loopw [17] (fun kv wq => ∃ (k : Nat) (ys : List Int), kv = .int .i64 k ∧ k ≤ m ∧ Srt w0 wq b1 gd cap t x ys ∧ ys.Perm xs ∧ w.grownBy wq (some gd)) (fun kv wq => (intOf kv).toNat)
      case atStart => exact ⟨m, xs, rfl, Nat.le_refl _, HQ.out.1, List.Perm.refl _, HQ.out.2⟩
      case round =>
        obtain ⟨k0, ys, rfl, hkm, hS, hp, hg⟩ := hrel
        have hyl : ys.length = N := hp.length_eq.trans hN
        by_cases hk : i < k0
        · obtain ⟨k, rfl⟩ : ∃ k, k0 = k + 1 := ⟨k0 - 1, by omega⟩
          obtain ⟨va, hva⟩ : ∃ va, va = ys[k + 1]'(by omega) := ⟨_, rfl⟩
          obtain ⟨vb, hvb⟩ : ∃ vb, vb = ys[k]'(by omega) := ⟨_, rfl⟩
          have c1 := hS.at_ (k + 1) (by omega)
          have c0 := hS.at_ k (by omega)
          rw [← hva] at c1
          rw [← hvb] at c0
          have y1 := hS.fz (k + 1)
          have y0 := hS.fz k
          have i1 : (k : Int) < (N : Int) := by omega
          have i2 : (k : Int) + 1 < (N : Int) := by omega
          have i3 : (i : Int) < (k : Int) + 1 := by omega
          have i6 : IntKind.i64.wrap ((k : Int) + 1 - 1) = (k : Int) := by rw [IntWalk.i64_in _ (by omega)]; omega
          have i7 : IntKind.i64.wrap (k : Int) = (k : Int) := IntWalk.i64_in _ (by omega)
          have HZ := Aside0.mk (And.intro hS (And.intro hp (And.intro hg (And.intro hva hvb))))
          clear hS hp hg hva hvb
          go_wp2
          go_region
          all_goals go_wp2
          all_goals (
            obtain ⟨hS, hp, hg, hva, hvb⟩ := HZ.out
            obtain ⟨s3, g3⟩ := hS.set (k + 1) vb
            obtain ⟨s4, g4⟩ := s3.set k va
            refine ⟨⟨k, swapL ys (k + 1) k, by first | rfl | go_num, by omega, ?_, (swapL_perm ys (k + 1) k (by omega) (by omega)).trans hp, ?_⟩, by simp only [intOf]; omega⟩
            · rw [swapL_eq ys (k + 1) k (by omega) (by omega), ← hva, ← hvb]; exact s4.grows ((Grows.refl _).drewN 1)
            · exact (hg.trans (g3.trans g4)).trans (grows_grownTo ((Grows.refl _).drewN 1) (some gd)))
        · have i3 : ¬ ((i : Int) < (k0 : Int)) := by omega
          have HZ := Aside0.mk (And.intro hS (And.intro hp hg))
          clear hS hp hg
          go_wp2
          refine bodyPost_ret (results_none rfl _ _ _) rfl ?_
          exact ⟨rfl, ys, HZ.out.1, HZ.out.2.1, HZ.out.2.2⟩
end Go.Proofs.Ytgfmplhpoblleaa.FailW
end
