/- FailV2. -/
import Derived.Test.YtgfmplhpoblleaaFP7
import Derived.Deep.CutBlock
section
/- slices.SortStableFunc: symMerge, whole. -/
namespace Go.Proofs.Ytgfmplhpoblleaa.FailW
open Go.RowKit Go.Shelf Go.Lib Go.Proofs Go.Proofs.YtgfmplhpoblleaaW.PrintWords Go.Proofs.YtgfmplhpoblleaaW.PrintLast Go.Proofs.YtgfmplhpoblleaaW.PrintMore Go.Proofs.Ytgfmplhpoblleaa.PRank Go.Proofs.Ytgfmplhpoblleaa.PFB Go.Proofs.Ytgfmplhpoblleaa.RankW Go.Proofs.Ytgfmplhpoblleaa.SortOwn Go.Proofs.Ytgfmplhpoblleaa
open Go.Proofs.Ytgfmplhpoblleaa.Cmps hiding dedup
set_option linter.unusedVariables false
set_option linter.unusedSimpArgs false

set_option maxHeartbeats 8000000 in
set_option maxRecDepth 100000 in
theorem sym_gen2 (w0 w : World) (b1 gd cap : Nat) (t : Addr) (x : List S106) (xs : List Int) (a m b md : Nat) (N : Nat) (hN : xs.length = N) (hS : Srt w0 w b1 gd cap t x xs) (ham : a + 1 < m) (hmb : m + 1 < b) (hb : b ≤ N) (hlen : N ≤ 1000000000000) (hmd : md = (a + b) / 2) (hc : m ≤ md)
    (ih : ∀ (w : World) (xs : List Int) (a' m' b' : Nat), xs.length = N → Srt w0 w b1 gd cap t x xs → a' < m' → m' < b' → b' ≤ N → b' - a' < b - a → SymDoes w0 b1 gd cap t x N w xs a' m' b') : SymDoes w0 b1 gd cap t x N w xs a m b := by
  unfold SymDoes
  have HS := Aside0.mk hS
  have IH := Aside0.mk ih
  clear hS ih
  have mixed : Try.prog.follows Departure.mixedOrders = true := by kernel_rfl
  obtain ⟨d, hd⟩ : ∃ d, d = m - a := ⟨_, rfl⟩
  have q1 : IntKind.i64.wrap ((m : Int) - (a : Int)) = (d : Int) := by rw [IntWalk.i64_in _ (by omega)]; omega
  have q2 : ¬ ((d : Int) = 1) := by omega
  have q2b : ((d : Int) == 1) = false := by simp; omega
  have q2c : ¬ (d = 1) := by omega
  obtain ⟨d', hd'⟩ : ∃ d', d' = b - m := ⟨_, rfl⟩
  have q3 : IntKind.i64.wrap ((b : Int) - (m : Int)) = (d' : Int) := by rw [IntWalk.i64_in _ (by omega)]; omega
  have q4 : ¬ ((d' : Int) = 1) := by omega
  have q4b : ((d' : Int) == 1) = false := by simp; omega
  have q4c : ¬ (d' = 1) := by omega
  obtain ⟨nn, hnn⟩ : ∃ nn, nn = md + m := ⟨_, rfl⟩
  obtain ⟨pp, hpp⟩ : ∃ pp, pp + 1 = nn := ⟨nn - 1, by omega⟩
  have q5 : ((a : Int) + (b : Int)) / 2 = (md : Int) := by omega
  have q6 : IntKind.i64.wrap ((md : Int) + (m : Int)) = (nn : Int) := by rw [IntWalk.i64_in _ (by omega)]; omega
  have q7 : IntKind.i64.wrap ((nn : Int) - 1) = (pp : Int) := by rw [IntWalk.i64_in _ (by omega)]; omega
  have q0 : IntKind.i64.wrap ((a : Int) + (b : Int)) = (a : Int) + (b : Int) := IntWalk.i64_in _ (by omega)
  obtain ⟨lo, hlo⟩ : ∃ lo, lo = a := ⟨_, rfl⟩
  obtain ⟨hi, hhi⟩ : ∃ hi, hi = m := ⟨_, rfl⟩
  have qc : ¬ ((md : Int) < (m : Int)) := by omega
  have qcn : ¬ (md < m) := by omega
  have n1 : a ≤ 1000000000000 := by omega
  have n2 : b ≤ 1000000000000 := by omega
  have n3 : m ≤ 1000000000000 := by omega
  have n4 : md ≤ 1000000000000 := by omega
  have f1 : lo ≤ hi := by omega
  have f2 : ∀ c, lo ≤ c → c < hi → c ≤ pp ∧ pp - c < N := fun c h1 h2 => by omega
  have f3 : ∀ c, lo ≤ c → c ≤ hi → c ≤ nn ∧ nn - c ≤ b ∧ c ≤ N := fun c h1 h2 => by omega
  have f4 : hi ≤ N := by omega
  have F := Aside0.mk (And.intro f2 (And.intro f3 (And.intro hmd (And.intro hc (And.intro hd (And.intro hd' (And.intro hnn (And.intro hpp (And.intro hlo (And.intro hhi (And.intro ham hmb)))))))))))
  clear f2 f3 hmd hc hd hd' hnn hpp hlo hhi ham hmb
  go_enter Try.func123, Try.ntmps123
  go_wp2
  go_loopw [20, 21] (fun iv jv wr => ∃ (st rr : Nat), iv = .int .i64 st ∧ jv = .int .i64 rr ∧ lo ≤ st ∧ st ≤ rr ∧ rr ≤ hi ∧ Srt w0 wr b1 gd cap t x xs ∧ w.grownBy wr (some gd)) (fun iv jv wr => (intOf jv).toNat - (intOf iv).toNat)
  case atStart =>
    exact ⟨a, m, by first | rfl | go_num, by first | rfl | go_num, by have h2 := F.out.2.2; omega, by have h2 := F.out.2.2; omega, by have h2 := F.out.2.2; omega, HS.out, grownBy_refl _ _⟩
  case round =>
    obtain ⟨st, rr, rfl, rfl, hi1, hij, hj, hS, hg⟩ := hrel
    by_cases hlt : st < rr
    · as_aux_lemma =>
      obtain ⟨c, hcc⟩ : ∃ c, c = (st + rr) / 2 := ⟨_, rfl⟩
      obtain ⟨g1, g2⟩ := F.out.1 c (by omega) (by omega)
      obtain ⟨dd, hdd⟩ : ∃ dd, dd = pp - c := ⟨_, rfl⟩
      have e1 : ((st : Int) + (rr : Int)) / 2 = (c : Int) := by omega
      have e2 : IntKind.i64.wrap ((pp : Int) - (c : Int)) = (dd : Int) := by rw [IntWalk.i64_in _ (by omega)]; omega
      have hcN : c < N := by omega
      have hdN : dd < N := by omega
      obtain ⟨va, hva⟩ : ∃ va, va = xs[dd]'(by omega) := ⟨_, rfl⟩
      obtain ⟨vb, hvb⟩ : ∃ vb, vb = xs[c]'(by omega) := ⟨_, rfl⟩
      have c1 := hS.at_ dd (by omega)
      have c0 := hS.at_ c (by omega)
      rw [← hva] at c1
      rw [← hvb] at c0
      have ia : (dd : Int) < (N : Int) := by omega
      have ih : (c : Int) < (N : Int) := by omega
      have HQ := Aside0.mk (And.intro hS (And.intro hg hcc))
      obtain ⟨r, hr⟩ : ∃ r, r = cmpD x va vb := ⟨_, rfl⟩
      have HRr := Aside0.mk hr
      clear hS hg hva hvb hr hcc hdd
      go_wp2_with fail
      go_region_held3 (fun w' => w'.cell? ⟨gd, dd, none⟩ = some (.int .i64 va) ∧ w'.cell? ⟨gd, c, none⟩ = some (.int .i64 vb))
        (first | exact ⟨c1, c0⟩ | (exact ⟨cell_grows G2.out c1, cell_grows G2.out c0⟩) | go_keep)
        ((go_simp; go_at_call 81; refine (cmpD_calls _ _ b1 t x _ (HQ.out.1.tr.below (HQ.out.1.grows ((Grows.refl wr).drewN 1)).bw) (HQ.out.1.grows ((Grows.refl wr).drewN 1)).bx).mono ?_; rw [← HRr.out]; rintro e w2 ⟨rfl, hg2⟩; have G2 := Aside0.mk (((Grows.refl wr).drewN 1).trans hg2); clear hg2))
      have S2 := Aside0.mk (HQ.out.1.grows G2.out)
      have HG2 := Aside0.mk (HQ.out.2.1.trans (grows_grownTo G2.out (some gd)))
      obtain ⟨bb, hbb⟩ : ∃ bb, decide (r < 0) = bb := ⟨_, rfl⟩
      have hbb2 : decide (0 ≤ r) = !bb := by
        rw [← hbb]
        by_cases h0 : r < 0
        · simp [h0]
        · simp [h0]; omega
      simp only [hbb, hbb2]
      clear hbb hbb2
      cases bb with
      | true =>
        go_wp2
        go_roundw
        case rel => exact ⟨st, c, rfl, by first | rfl | go_num, hi1, by have := HQ.out.2.2; omega, by have := HQ.out.2.2; omega, S2.out, HG2.out⟩
        case measure => have := HQ.out.2.2; simp [intOf]; omega
      | false =>
        go_wp2
        go_roundw
        case rel => exact ⟨c + 1, rr, by go_num, rfl, by have := HQ.out.2.2; omega, by have := HQ.out.2.2; omega, hj, S2.out, HG2.out⟩
        case measure => have := HQ.out.2.2; simp [intOf]; omega
    · have hsr : st = rr := by omega
      obtain ⟨k1, k2, k3⟩ := F.out.2.1 st hi1 (by omega)
      obtain ⟨en, hen⟩ : ∃ en, en = nn - st := ⟨_, rfl⟩
      have e6 : IntKind.i64.wrap ((nn : Int) - (st : Int)) = (en : Int) := by rw [IntWalk.i64_in _ (by omega)]; omega
      have hlt' : ¬ ((st : Int) < (rr : Int)) := by omega
      have HQ := Aside0.mk (And.intro hS hg)
      have HE := Aside0.mk (And.intro hen (And.intro k1 (And.intro k2 k3)))
      clear hS hg hsr hen k1 k2 k3
      go_upto_region 39 with fail
      have hAdec : ∀ p q : Prop, [Decidable p] → [Decidable q] → True := fun _ _ => trivial
      obtain ⟨bA, hbA⟩ : ∃ bA, bA = (decide (st < m) && decide (m < en)) := ⟨_, rfl⟩
      have HbA := Aside0.mk hbA
      clear hbA hAdec
      go_cut [185] (fun v wx => v = .bool bA ∧ wx = wr)
      case first => as_aux_lemma =>
        by_cases hA1 : st < m
        · by_cases hA2 : m < en
          · have z1 : (st : Int) < (m : Int) := by omega
            have z2 : (m : Int) < (en : Int) := by omega
            go_wp2
            go_meet
            exact ⟨by rw [HbA.out]; simp [hA1, hA2], rfl⟩
          · have z1 : (st : Int) < (m : Int) := by omega
            have z2 : ¬ ((m : Int) < (en : Int)) := by omega
            go_wp2
            go_meet
            exact ⟨by rw [HbA.out]; simp [hA1, hA2], rfl⟩
        · have z1 : ¬ ((st : Int) < (m : Int)) := by omega
          go_wp2
          go_meet
          exact ⟨by rw [HbA.out]; simp [hA1], rfl⟩
      case rest =>
        obtain ⟨rfl, rfl⟩ := hcut
        have HY0 := Aside0.mk (And.intro HQ.out.1 (And.intro (List.Perm.refl xs) HQ.out.2))
        go_upto_if 185 with fail
        go_cut [] (fun wx => ∃ ys : List Int, Srt w0 wx b1 gd cap t x ys ∧ ys.Perm xs ∧ w.grownBy wx (some gd))
        case first => as_aux_lemma =>
          cases hq : bA with
          | true =>
            have hcond : st < m ∧ m < en := by have h_ := HbA.out; rw [hq] at h_; simpa using h_.symm
            have HCo := Aside0.mk hcond
            clear hcond hq
            go_wp2_with ((go_at_call 141; refine (rot_calls w0 _ b1 gd cap t x xs st m en _ N hN HQ.out.1 HCo.out.1 HCo.out.2 (by have h_ := HE.out; omega) hlen).mono ?_; rintro e w2 ⟨rfl, zs, hz2, hzp, hzg⟩; have HZ := Aside0.mk (And.intro hz2 (And.intro hzp hzg)); clear hz2 hzp hzg))
            go_meet
            exact ⟨zs, HZ.out.1, HZ.out.2.1, HQ.out.2.trans HZ.out.2.2⟩
          | false =>
            clear hq
            go_wp2
            go_meet
            exact ⟨_, HY0.out.1, HY0.out.2.1, HY0.out.2.2⟩
        case rest =>
          obtain ⟨ys1, hs_, hp_, hg_⟩ := hcut
          have HY1 := Aside0.mk (And.intro hs_ (And.intro hp_ hg_))
          clear hs_ hp_ hg_
          go_upto_region 41 with fail
          obtain ⟨bB, hbB⟩ : ∃ bB, bB = (decide (a < st) && decide (st < md)) := ⟨_, rfl⟩
          have HbB := Aside0.mk hbB
          clear hbB
          go_cut [199] (fun v wx => v = .bool bB ∧ wx = wc)
          case first => as_aux_lemma =>
            by_cases h1 : a < st
            · by_cases h2 : st < md
              · have z1 : (a : Int) < (st : Int) := by omega
                have z2 : ((st : Int) < (md : Int)) := by omega
                go_wp2
                go_meet
                exact ⟨by rw [HbB.out]; simp [h1, h2], rfl⟩
              · have z1 : (a : Int) < (st : Int) := by omega
                have z2 : ¬ ((st : Int) < (md : Int)) := by omega
                go_wp2
                go_meet
                exact ⟨by rw [HbB.out]; simp [h1, h2], rfl⟩
            · have z1 : ¬ ((a : Int) < (st : Int)) := by omega
              go_wp2
              go_meet
              exact ⟨by rw [HbB.out]; simp [h1], rfl⟩
          case rest =>
            obtain ⟨rfl, rfl⟩ := hcut
            go_upto_if 199 with fail
            go_cut [] (fun wx => ∃ ys : List Int, Srt w0 wx b1 gd cap t x ys ∧ ys.Perm xs ∧ w.grownBy wx (some gd))
            case first => as_aux_lemma =>
              cases hq : bB with
              | true =>
                have hcond : a < st ∧ st < md := by have h_ := HbB.out; rw [hq] at h_; simpa using h_.symm
                have HCo := Aside0.mk hcond
                clear hcond hq
                have hI := IH.out _ ys1 a st md (HY1.out.2.1.length_eq.trans hN) HY1.out.1 HCo.out.1 HCo.out.2 (by have h_ := HE.out; have h2 := F.out.2.2; have h3 := HCo.out; omega) (by have h_ := HE.out; have h2 := F.out.2.2; have h3 := HCo.out; omega)
                unfold SymDoes at hI
                have HII := Aside0.mk hI
                clear hI
                go_wp2_with ((go_at_call 123; refine HII.out.mono ?_; rintro e w2 ⟨rfl, zs, hz2, hzp, hzg⟩; have HZ := Aside0.mk (And.intro hz2 (And.intro hzp hzg)); clear hz2 hzp hzg))
                go_meet
                exact ⟨zs, HZ.out.1, HZ.out.2.1.trans HY1.out.2.1, HY1.out.2.2.trans HZ.out.2.2⟩
              | false =>
                clear hq
                go_wp2
                go_meet
                exact ⟨_, HY1.out.1, HY1.out.2.1, HY1.out.2.2⟩
            case rest =>
              obtain ⟨ys2, hs_, hp_, hg_⟩ := hcut
              have HY2 := Aside0.mk (And.intro hs_ (And.intro hp_ hg_))
              clear hs_ hp_ hg_
              go_upto_region 43 with fail
              obtain ⟨bC, hbC⟩ : ∃ bC, bC = (decide (md < en) && decide (en < b)) := ⟨_, rfl⟩
              have HbC := Aside0.mk hbC
              clear hbC
              go_cut [213] (fun v wx => v = .bool bC ∧ wx = wc)
              case first => as_aux_lemma =>
                by_cases h1 : md < en
                · by_cases h2 : en < b
                  · have z1 : (md : Int) < (en : Int) := by omega
                    have z2 : ((en : Int) < (b : Int)) := by omega
                    go_wp2
                    go_meet
                    exact ⟨by rw [HbC.out]; simp [h1, h2], rfl⟩
                  · have z1 : (md : Int) < (en : Int) := by omega
                    have z2 : ¬ ((en : Int) < (b : Int)) := by omega
                    go_wp2
                    go_meet
                    exact ⟨by rw [HbC.out]; simp [h1, h2], rfl⟩
                · have z1 : ¬ ((md : Int) < (en : Int)) := by omega
                  go_wp2
                  go_meet
                  exact ⟨by rw [HbC.out]; simp [h1], rfl⟩
              case rest =>
                obtain ⟨rfl, rfl⟩ := hcut
                cases hq : bC with
                | true => as_aux_lemma =>
                  have hcond : md < en ∧ en < b := by have h_ := HbC.out; rw [hq] at h_; simpa using h_.symm
                  have HCo := Aside0.mk hcond
                  clear hcond hq
                  have hI := IH.out _ ys2 md en b (HY2.out.2.1.length_eq.trans hN) HY2.out.1 HCo.out.1 HCo.out.2 (by have h_ := HE.out; have h2 := F.out.2.2; have h3 := HCo.out; omega) (by have h_ := HE.out; have h2 := F.out.2.2; have h3 := HCo.out; omega)
                  unfold SymDoes at hI
                  have HII := Aside0.mk hI
                  clear hI
                  go_wp2_with ((go_at_call 123; refine HII.out.mono ?_; rintro e w2 ⟨rfl, zs, hz2, hzp, hzg⟩; have HZ := Aside0.mk (And.intro hz2 (And.intro hzp hzg)); clear hz2 hzp hzg))
                  go_end0
                  exact ⟨rfl, zs, HZ.out.1, HZ.out.2.1.trans HY2.out.2.1, HY2.out.2.2.trans HZ.out.2.2⟩
                | false =>
                  clear hq
                  go_wp2
                  go_end0
                  exact ⟨rfl, ys2, HY2.out.1, HY2.out.2.1, HY2.out.2.2⟩
end Go.Proofs.Ytgfmplhpoblleaa.FailW
end
