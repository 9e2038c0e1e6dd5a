/- SrtV2. -/
import Derived.Test.YtgfmplhpoblleaaFK7
import Derived.Deep.CutBlock
section
/- slices.SortStableFunc: symMerge, whole. -/
namespace Go.Proofs.Ytgfmplhpoblleaa.FailW
open Go.RowKit Go.Shelf Go.Lib Go.Proofs Go.Proofs.YtgfmplhpoblleaaW.PrintWords Go.Proofs.YtgfmplhpoblleaaW.PrintLast Go.Proofs.YtgfmplhpoblleaaW.PrintMore Go.Proofs.Ytgfmplhpoblleaa.PRank Go.Proofs.Ytgfmplhpoblleaa.PFB Go.Proofs.Ytgfmplhpoblleaa.RankW Go.Proofs.Ytgfmplhpoblleaa.SortOwn Go.Proofs.Ytgfmplhpoblleaa
open Go.Proofs.Ytgfmplhpoblleaa.Cmps hiding dedup
set_option linter.unusedVariables false
set_option linter.unusedSimpArgs false

set_option maxHeartbeats 8000000 in
set_option maxRecDepth 100000 in
theorem sym_gen2 (w0 w : World) (b1 gd cap : Nat) (t : Addr) (x : List S106) (xs A L R T : List Int) (a m b md : Nat) (N : Nat) (hin : SymIn x xs A L R T a m b) (hN : xs.length = N) (hS : Srt w0 w b1 gd cap t x xs) (ham : a + 1 < m) (hmb : m + 1 < b) (hb : b ≤ N) (hlen : N ≤ 1000000000000) (hmd : md = (a + b) / 2) (hc : m ≤ md)
    (ih : ∀ (w : World) (xs A L R T : List Int) (a' m' b' : Nat), SymIn x xs A L R T a' m' b' → xs.length = N → Srt w0 w b1 gd cap t x xs → a' < m' → m' < b' → b' ≤ N → b' - a' < b - a → SymDoes w0 b1 gd cap t x N w A L R T a' m' b') : SymDoes w0 b1 gd cap t x N w A L R T a m b := by
  unfold SymDoes
  have HS := Aside0.mk hS
  have IH := Aside0.mk ih
  have HI := Aside0.mk hin
  clear hS ih hin
  have mixed : Try.prog.follows Departure.mixedOrders = true := by kernel_rfl
  obtain ⟨d, hd⟩ : ∃ d, d = m - a := ⟨_, rfl⟩
  have q1 : IntKind.i64.wrap ((m : Int) - (a : Int)) = (d : Int) := by rw [IntWalk.i64_in _ (by omega)]; omega
  have q2 : ¬ ((d : Int) = 1) := by omega
  have q2b : ((d : Int) == 1) = false := by simp; omega
  have q2c : ¬ (d = 1) := by omega
  obtain ⟨d', hd'⟩ : ∃ d', d' = b - m := ⟨_, rfl⟩
  have q3 : IntKind.i64.wrap ((b : Int) - (m : Int)) = (d' : Int) := by rw [IntWalk.i64_in _ (by omega)]; omega
  have q4 : ¬ ((d' : Int) = 1) := by omega
  have q4b : ((d' : Int) == 1) = false := by simp; omega
  have q4c : ¬ (d' = 1) := by omega
  obtain ⟨nn, hnn⟩ : ∃ nn, nn = md + m := ⟨_, rfl⟩
  obtain ⟨pp, hpp⟩ : ∃ pp, pp + 1 = nn := ⟨nn - 1, by omega⟩
  have q5 : ((a : Int) + (b : Int)) / 2 = (md : Int) := by omega
  have q6 : IntKind.i64.wrap ((md : Int) + (m : Int)) = (nn : Int) := by rw [IntWalk.i64_in _ (by omega)]; omega
  have q7 : IntKind.i64.wrap ((nn : Int) - 1) = (pp : Int) := by rw [IntWalk.i64_in _ (by omega)]; omega
  have q0 : IntKind.i64.wrap ((a : Int) + (b : Int)) = (a : Int) + (b : Int) := IntWalk.i64_in _ (by omega)
  obtain ⟨lo, hlo⟩ : ∃ lo, lo = a := ⟨_, rfl⟩
  obtain ⟨hi, hhi⟩ : ∃ hi, hi = m := ⟨_, rfl⟩
  have qc : ¬ ((md : Int) < (m : Int)) := by omega
  have qcn : ¬ (md < m) := by omega
  have n1 : a ≤ 1000000000000 := by omega
  have n2 : b ≤ 1000000000000 := by omega
  have n3 : m ≤ 1000000000000 := by omega
  have n4 : md ≤ 1000000000000 := by omega
  have f1 : lo ≤ hi := by omega
  have f2 : ∀ c, lo ≤ c → c < hi → c ≤ pp ∧ pp - c < N := fun c h1 h2 => by omega
  have f3 : ∀ c, lo ≤ c → c ≤ hi → c ≤ nn ∧ nn - c ≤ b ∧ c ≤ N := fun c h1 h2 => by omega
  have f4 : hi ≤ N := by omega
  have F := Aside0.mk (And.intro f2 (And.intro f3 (And.intro hmd (And.intro hc (And.intro hd (And.intro hd' (And.intro hnn (And.intro hpp (And.intro hlo (And.intro hhi (And.intro ham hmb)))))))))))
  clear f2 f3 hmd hc hd hd' hnn hpp hlo hhi ham hmb
  go_enter Try.func123, Try.ntmps123
  go_wp2
  go_loopw [20, 21] (fun iv jv wr => ∃ (st rr : Nat), iv = .int .i64 st ∧ jv = .int .i64 rr ∧ lo ≤ st ∧ st ≤ rr ∧ rr ≤ hi ∧ Srt w0 wr b1 gd cap t x xs ∧ ((lo < st → ∀ u v, xs[st - 1]? = some u → xs[nn - st]? = some v → Le (cmpD x) u v) ∧ (rr < hi → ∀ u v, xs[nn - rr - 1]? = some u → xs[rr]? = some v → Le (cmpD x) u v)) ∧ w.grownBy wr (some gd)) (fun iv jv wr => (intOf jv).toNat - (intOf iv).toNat)
  case atStart =>
    exact ⟨a, m, by first | rfl | go_num, by first | rfl | go_num, by have h2 := F.out.2.2; omega, by have h2 := F.out.2.2; omega, by have h2 := F.out.2.2; omega, HS.out, ⟨fun h_ => by have h2 := F.out.2.2; omega, fun h_ => by have h2 := F.out.2.2; omega⟩, grownBy_refl _ _⟩
  case round =>
    obtain ⟨st, rr, rfl, rfl, hi1, hij, hj, hS, hbs, hg⟩ := hrel
    by_cases hlt : st < rr
    · as_aux_lemma =>
      obtain ⟨c, hcc⟩ : ∃ c, c = (st + rr) / 2 := ⟨_, rfl⟩
      obtain ⟨g1, g2⟩ := F.out.1 c (by omega) (by omega)
      obtain ⟨dd, hdd⟩ : ∃ dd, dd = pp - c := ⟨_, rfl⟩
      have e1 : ((st : Int) + (rr : Int)) / 2 = (c : Int) := by omega
      have e2 : IntKind.i64.wrap ((pp : Int) - (c : Int)) = (dd : Int) := by rw [IntWalk.i64_in _ (by omega)]; omega
      have hcN : c < N := by omega
      have hdN : dd < N := by omega
      obtain ⟨va, hva⟩ : ∃ va, va = xs[dd]'(by omega) := ⟨_, rfl⟩
      obtain ⟨vb, hvb⟩ : ∃ vb, vb = xs[c]'(by omega) := ⟨_, rfl⟩
      have c1 := hS.at_ dd (by omega)
      have c0 := hS.at_ c (by omega)
      rw [← hva] at c1
      rw [← hvb] at c0
      have ia : (dd : Int) < (N : Int) := by omega
      have ih : (c : Int) < (N : Int) := by omega
      have HQ := Aside0.mk (And.intro hS (And.intro hg hcc))
      have exa : xs[dd]? = some va := by rw [hva]; exact List.getElem?_eq_getElem _
      have exb : xs[c]? = some vb := by rw [hvb]; exact List.getElem?_eq_getElem _
      have edd : dd = nn - c - 1 := by have h2 := F.out.2.2; omega
      have HBS := Aside0.mk (And.intro hbs (And.intro exa (And.intro exb edd)))
      obtain ⟨r, hr⟩ : ∃ r, r = cmpD x va vb := ⟨_, rfl⟩
      have HRr := Aside0.mk hr
      clear hS hg hva hvb hr hcc hdd hbs exa exb edd
      go_wp2_with fail
      go_region_held3 (fun w' => w'.cell? ⟨gd, dd, none⟩ = some (.int .i64 va) ∧ w'.cell? ⟨gd, c, none⟩ = some (.int .i64 vb))
        (first | exact ⟨c1, c0⟩ | (exact ⟨cell_grows G2.out c1, cell_grows G2.out c0⟩) | go_keep)
        ((go_simp; go_at_call 81; refine (cmpD_calls _ _ b1 t x _ (HQ.out.1.tr.below (HQ.out.1.grows ((Grows.refl wr).drewN 1)).bw) (HQ.out.1.grows ((Grows.refl wr).drewN 1)).bx).mono ?_; rw [← HRr.out]; rintro e w2 ⟨rfl, hg2⟩; have G2 := Aside0.mk (((Grows.refl wr).drewN 1).trans hg2); clear hg2))
      have S2 := Aside0.mk (HQ.out.1.grows G2.out)
      have HG2 := Aside0.mk (HQ.out.2.1.trans (grows_grownTo G2.out (some gd)))
      obtain ⟨bb, hbb⟩ : ∃ bb, decide (r < 0) = bb := ⟨_, rfl⟩
      have hbb2 : decide (0 ≤ r) = !bb := by
        rw [← hbb]
        by_cases h0 : r < 0
        · simp [h0]
        · simp [h0]; omega
      have HBB := Aside0.mk hbb
      simp only [hbb, hbb2]
      clear hbb hbb2
      cases bb with
      | true =>
        go_wp2
        go_roundw
        case rel => exact ⟨st, c, rfl, by first | rfl | go_num, hi1, by have := HQ.out.2.2; omega, by have := HQ.out.2.2; omega, S2.out, ⟨HBS.out.1.1, fun _ u v hu hv => by have h4 := HBS.out.2.2.2; rw [← h4, HBS.out.2.1] at hu; rw [HBS.out.2.2.1] at hv; obtain rfl := Option.some.inj hu; obtain rfl := Option.some.inj hv; exact HI.out.ord.le (HI.out.nd _ (List.mem_of_getElem? HBS.out.2.1)) (HI.out.nd _ (List.mem_of_getElem? HBS.out.2.2.1)) (by rw [← HRr.out]; exact of_decide_eq_true HBB.out)⟩, HG2.out⟩
        case measure => have := HQ.out.2.2; simp [intOf]; omega
      | false =>
        go_wp2
        go_roundw
        case rel => exact ⟨c + 1, rr, by go_num, rfl, by have := HQ.out.2.2; omega, by have := HQ.out.2.2; omega, hj, S2.out, ⟨fun _ u v hu hv => by have h4 := HBS.out.2.2.2; rw [Nat.add_sub_cancel, HBS.out.2.2.1] at hu; rw [show nn - (c + 1) = dd by omega, HBS.out.2.1] at hv; obtain rfl := Option.some.inj hu; obtain rfl := Option.some.inj hv; exact show ¬ cmpD x _ _ < 0 by rw [← HRr.out]; exact of_decide_eq_false HBB.out, HBS.out.1.2⟩, HG2.out⟩
        case measure => have := HQ.out.2.2; simp [intOf]; omega
    · have hsr : st = rr := by omega
      obtain ⟨k1, k2, k3⟩ := F.out.2.1 st hi1 (by omega)
      obtain ⟨en, hen⟩ : ∃ en, en = nn - st := ⟨_, rfl⟩
      have e6 : IntKind.i64.wrap ((nn : Int) - (st : Int)) = (en : Int) := by rw [IntWalk.i64_in _ (by omega)]; omega
      have hlt' : ¬ ((st : Int) < (rr : Int)) := by omega
      have hla := HI.out.la
      have hlm := HI.out.lm
      have hlb := HI.out.lb
      obtain ⟨L1, L2, R1, R2, s1, s2, s3, s4, s5, s6⟩ := sym_split HI.out.ord (A := A) (L := L) (R := R) (T := T) (by rw [← HI.out.eq]; exact HI.out.nd) HI.out.sl HI.out.sr (st := st) (en := en) (by have h2 := F.out.2.2; omega) (by have h2 := F.out.2.2; omega) (by have h2 := F.out.2.2; omega) (by have h2 := F.out.2.2; omega)
        (fun g1 g2 u v hu hv => hbs.1 (by have h2 := F.out.2.2; omega) u v (by rw [HI.out.eq]; exact hu) (by rw [HI.out.eq, ← hen]; exact hv))
        (fun g1 g2 u v hu hv => hbs.2 (by have h2 := F.out.2.2; omega) u v (by rw [HI.out.eq, ← hsr, ← hen]; exact hu) (by rw [HI.out.eq, ← hsr]; exact hv))
      have hmd2 : A.length + L1.length + R1.length = md := by have h2 := F.out.2.2; omega
      have HQ := Aside0.mk (And.intro hS hg)
      have HE := Aside0.mk (And.intro hen (And.intro k1 (And.intro k2 k3)))
      have hsl := HI.out.sl
      have hsr2 := HI.out.sr
      rw [s1] at hsl
      rw [s2] at hsr2
      have heq := HI.out.eq
      rw [s1, s2] at heq
      simp only [List.append_assoc] at heq
      have lL : L.length = L1.length + L2.length := by rw [s1, List.length_append]
      have lR : R.length = R1.length + R2.length := by rw [s2, List.length_append]
      have HSP := Aside0.mk (And.intro s1 (And.intro s2 (And.intro s3 (And.intro s4 (And.intro s5 (And.intro s6 (And.intro hmd2 (And.intro hsl (And.intro hsr2 (And.intro heq (And.intro lL (And.intro lR (And.intro hla (And.intro hlm hlb))))))))))))))
      clear hS hg hsr hen k1 k2 k3 hbs s1 s2 s3 s4 s5 s6 hmd2 hla hlm hlb hsl hsr2 heq lL lR
      go_upto_region 39 with fail
      have hAdec : ∀ p q : Prop, [Decidable p] → [Decidable q] → True := fun _ _ => trivial
      obtain ⟨bA, hbA⟩ : ∃ bA, bA = (decide (st < m) && decide (m < en)) := ⟨_, rfl⟩
      have HbA := Aside0.mk hbA
      clear hbA hAdec
      go_cut [185] (fun v wx => v = .bool bA ∧ wx = wr)
      case first => as_aux_lemma =>
        by_cases hA1 : st < m
        · by_cases hA2 : m < en
          · have z1 : (st : Int) < (m : Int) := by omega
            have z2 : (m : Int) < (en : Int) := by omega
            go_wp2
            go_meet
            exact ⟨by rw [HbA.out]; simp [hA1, hA2], rfl⟩
          · have z1 : (st : Int) < (m : Int) := by omega
            have z2 : ¬ ((m : Int) < (en : Int)) := by omega
            go_wp2
            go_meet
            exact ⟨by rw [HbA.out]; simp [hA1, hA2], rfl⟩
        · have z1 : ¬ ((st : Int) < (m : Int)) := by omega
          go_wp2
          go_meet
          exact ⟨by rw [HbA.out]; simp [hA1], rfl⟩
      case rest =>
        obtain ⟨rfl, rfl⟩ := hcut
        go_upto_if 185 with fail
        go_cut [] (fun wx => Srt w0 wx b1 gd cap t x (A ++ (L1 ++ (R1 ++ (L2 ++ (R2 ++ T))))) ∧ w.grownBy wx (some gd))
        case first => as_aux_lemma =>
          cases hq : bA with
          | true =>
            have hcond : st < m ∧ m < en := by have h_ := HbA.out; rw [hq] at h_; simpa using h_.symm
            have HCo := Aside0.mk hcond
            clear hcond hq
            go_wp2_with ((go_at_call 141; refine (rot_calls w0 _ b1 gd cap t x xs (A ++ L1) L2 R1 (R2 ++ T) (by have h_ := HSP.out; rw [h_.2.2.2.2.2.2.2.2.2.1]; simp only [List.append_assoc]) st m en (by have h_ := HSP.out; rw [List.length_append]; omega) (by have h_ := HSP.out; rw [List.length_append]; omega) (by have h_ := HSP.out; rw [List.length_append]; omega) _ N hN HQ.out.1 HCo.out.1 HCo.out.2 (by have h_ := HE.out; omega) hlen).mono ?_; rintro e w2 ⟨rfl, hz2, hzg⟩; have HZ := Aside0.mk (And.intro hz2 hzg); clear hz2 hzg))
            go_meet
            exact ⟨by have h_ := HZ.out.1; simp only [List.append_assoc] at h_; exact h_, HQ.out.2.trans HZ.out.2⟩
          | false =>
            have hcond : ¬ (st < m ∧ m < en) := by have h_ := HbA.out; rw [hq] at h_; simpa using h_.symm
            have hx : xs = A ++ (L1 ++ (R1 ++ (L2 ++ (R2 ++ T)))) := by
              have h_ := HSP.out
              rw [h_.2.2.2.2.2.2.2.2.2.1]
              by_cases hl2 : L2.length = 0
              · rw [List.length_eq_zero_iff.1 hl2]; rfl
              · have hr1 : R1.length = 0 := by omega
                rw [List.length_eq_zero_iff.1 hr1]; rfl
            have HX0 := Aside0.mk hx
            clear hq hcond hx
            go_wp2
            go_meet
            exact ⟨by rw [← HX0.out]; exact HQ.out.1, HQ.out.2⟩
        case rest =>
          obtain ⟨hs_, hg_⟩ := hcut
          have HY1 := Aside0.mk (And.intro hs_ hg_)
          clear hs_ hg_
          go_upto_region 41 with fail
          obtain ⟨bB, hbB⟩ : ∃ bB, bB = (decide (a < st) && decide (st < md)) := ⟨_, rfl⟩
          have HbB := Aside0.mk hbB
          clear hbB
          go_cut [199] (fun v wx => v = .bool bB ∧ wx = wc)
          case first => as_aux_lemma =>
            by_cases h1 : a < st
            · by_cases h2 : st < md
              · have z1 : (a : Int) < (st : Int) := by omega
                have z2 : ((st : Int) < (md : Int)) := by omega
                go_wp2
                go_meet
                exact ⟨by rw [HbB.out]; simp [h1, h2], rfl⟩
              · have z1 : (a : Int) < (st : Int) := by omega
                have z2 : ¬ ((st : Int) < (md : Int)) := by omega
                go_wp2
                go_meet
                exact ⟨by rw [HbB.out]; simp [h1, h2], rfl⟩
            · have z1 : ¬ ((a : Int) < (st : Int)) := by omega
              go_wp2
              go_meet
              exact ⟨by rw [HbB.out]; simp [h1], rfl⟩
          case rest =>
            obtain ⟨rfl, rfl⟩ := hcut
            go_upto_if 199 with fail
            go_cut [] (fun wx => ∃ M1 : List Int, Srt w0 wx b1 gd cap t x (A ++ (M1 ++ (L2 ++ (R2 ++ T)))) ∧ (M1.Perm (L1 ++ R1) ∧ Srtd (cmpD x) M1) ∧ w.grownBy wx (some gd))
            case first => as_aux_lemma =>
              cases hq : bB with
              | true =>
                have hcond : a < st ∧ st < md := by have h_ := HbB.out; rw [hq] at h_; simpa using h_.symm
                have HCo := Aside0.mk hcond
                clear hcond hq
                have hxp : (A ++ (L1 ++ (R1 ++ (L2 ++ (R2 ++ T))))).Perm xs := by have h_ := HSP.out; rw [h_.2.2.2.2.2.2.2.2.2.1]; refine List.Perm.append_left _ (List.Perm.append_left _ ?_); rw [← List.append_assoc, ← List.append_assoc L2]; exact List.Perm.append_right _ List.perm_append_comm
                have hI := IH.out _ _ A L1 R1 (L2 ++ (R2 ++ T)) a st md ⟨HI.out.ord, fun u hu => HI.out.nd u (hxp.mem_iff.1 hu), rfl, by have h_ := HSP.out; omega, by have h_ := HSP.out; omega, by have h_ := HSP.out; omega, (srtd_app.1 HSP.out.2.2.2.2.2.2.2.1).1, (srtd_app.1 HSP.out.2.2.2.2.2.2.2.2.1).1⟩ (hxp.length_eq.trans hN) HY1.out.1 HCo.out.1 HCo.out.2 (by have h_ := HE.out; have h2 := F.out.2.2; have h3 := HCo.out; omega) (by have h_ := HE.out; have h2 := F.out.2.2; have h3 := HCo.out; omega)
                unfold SymDoes at hI
                have HII := Aside0.mk hI
                clear hI hxp
                go_wp2_with ((go_at_call 123; refine HII.out.mono ?_; rintro e w2 ⟨rfl, zs, hz2, hzp, hzg⟩; have HZ := Aside0.mk (And.intro hz2 (And.intro hzp hzg)); clear hz2 hzp hzg))
                go_meet
                exact ⟨zs, HZ.out.1, HZ.out.2.1, HY1.out.2.trans HZ.out.2.2⟩
              | false =>
                have hcond : ¬ (a < st ∧ st < md) := by have h_ := HbB.out; rw [hq] at h_; simpa using h_.symm
                have hx : Srtd (cmpD x) (L1 ++ R1) := by
                  have h_ := HSP.out
                  by_cases hl1 : L1.length = 0
                  · rw [List.length_eq_zero_iff.1 hl1]; exact (srtd_app.1 h_.2.2.2.2.2.2.2.2.1).1
                  · have hr1 : R1.length = 0 := by omega
                    rw [List.length_eq_zero_iff.1 hr1, List.append_nil]; exact (srtd_app.1 h_.2.2.2.2.2.2.2.1).1
                have HX0 := Aside0.mk hx
                clear hq hcond hx
                go_wp2
                go_meet
                exact ⟨L1 ++ R1, by rw [List.append_assoc]; exact HY1.out.1, ⟨List.Perm.refl _, HX0.out⟩, HY1.out.2⟩
            case rest =>
              obtain ⟨M1, hs_, hp_, hg_⟩ := hcut
              have HY2 := Aside0.mk (And.intro hs_ (And.intro hp_ hg_))
              clear hs_ hp_ hg_
              go_upto_region 43 with fail
              obtain ⟨bC, hbC⟩ : ∃ bC, bC = (decide (md < en) && decide (en < b)) := ⟨_, rfl⟩
              have HbC := Aside0.mk hbC
              clear hbC
              go_cut [213] (fun v wx => v = .bool bC ∧ wx = wc)
              case first => as_aux_lemma =>
                by_cases h1 : md < en
                · by_cases h2 : en < b
                  · have z1 : (md : Int) < (en : Int) := by omega
                    have z2 : ((en : Int) < (b : Int)) := by omega
                    go_wp2
                    go_meet
                    exact ⟨by rw [HbC.out]; simp [h1, h2], rfl⟩
                  · have z1 : (md : Int) < (en : Int) := by omega
                    have z2 : ¬ ((en : Int) < (b : Int)) := by omega
                    go_wp2
                    go_meet
                    exact ⟨by rw [HbC.out]; simp [h1, h2], rfl⟩
                · have z1 : ¬ ((md : Int) < (en : Int)) := by omega
                  go_wp2
                  go_meet
                  exact ⟨by rw [HbC.out]; simp [h1], rfl⟩
              case rest =>
                obtain ⟨rfl, rfl⟩ := hcut
                cases hq : bC with
                | true => as_aux_lemma =>
                  have hcond : md < en ∧ en < b := by have h_ := HbC.out; rw [hq] at h_; simpa using h_.symm
                  have HCo := Aside0.mk hcond
                  clear hcond hq
                  have hxp : ((A ++ M1) ++ (L2 ++ (R2 ++ T))).Perm xs := by have h_ := HSP.out; rw [h_.2.2.2.2.2.2.2.2.2.1, List.append_assoc]; refine List.Perm.append_left _ ?_; refine (List.Perm.append_right _ HY2.out.2.1.1).trans ?_; rw [List.append_assoc]; refine List.Perm.append_left _ ?_; rw [← List.append_assoc, ← List.append_assoc L2]; exact List.Perm.append_right _ List.perm_append_comm
                  have hm1 := HY2.out.2.1.1.length_eq
                  rw [List.length_append] at hm1
                  have hI := IH.out _ _ (A ++ M1) L2 R2 T md en b ⟨HI.out.ord, fun u hu => HI.out.nd u (hxp.mem_iff.1 hu), rfl, by have h_ := HSP.out; rw [List.length_append]; omega, by have h_ := HSP.out; rw [List.length_append]; omega, by have h_ := HSP.out; rw [List.length_append]; omega, (srtd_app.1 HSP.out.2.2.2.2.2.2.2.1).2.1, (srtd_app.1 HSP.out.2.2.2.2.2.2.2.2.1).2.1⟩ (hxp.length_eq.trans hN) (by rw [List.append_assoc]; exact HY2.out.1) HCo.out.1 HCo.out.2 (by have h_ := HE.out; have h2 := F.out.2.2; have h3 := HCo.out; omega) (by have h_ := HE.out; have h2 := F.out.2.2; have h3 := HCo.out; omega)
                  unfold SymDoes at hI
                  have HII := Aside0.mk hI
                  clear hI hxp hm1
                  go_wp2_with ((go_at_call 123; refine HII.out.mono ?_; rintro e w2 ⟨rfl, zs, hz2, hzp, hzg⟩; have HZ := Aside0.mk (And.intro hz2 (And.intro hzp hzg)); clear hz2 hzp hzg))
                  go_end0
                  have hj := sym_join HSP.out.2.2.2.2.2.2.2.1 HSP.out.2.2.2.2.2.2.2.2.1 HSP.out.2.2.2.2.1 HSP.out.2.2.2.2.2.1 HY2.out.2.1.1 HZ.out.2.1.1 HY2.out.2.1.2 HZ.out.2.1.2
                  refine ⟨rfl, M1 ++ zs, by have h_ := HZ.out.1; simp only [List.append_assoc] at h_ ⊢; exact h_, ⟨?_, hj.1⟩, HY2.out.2.2.trans HZ.out.2.2⟩
                  rw [HSP.out.1, HSP.out.2.1]; exact hj.2
                | false =>
                  have hcond : ¬ (md < en ∧ en < b) := by have h_ := HbC.out; rw [hq] at h_; simpa using h_.symm
                  have hx : Srtd (cmpD x) (L2 ++ R2) := by
                    have h_ := HSP.out
                    by_cases hl1 : L2.length = 0
                    · rw [List.length_eq_zero_iff.1 hl1]; exact (srtd_app.1 h_.2.2.2.2.2.2.2.2.1).2.1
                    · have hr1 : R2.length = 0 := by omega
                      rw [List.length_eq_zero_iff.1 hr1, List.append_nil]; exact (srtd_app.1 h_.2.2.2.2.2.2.2.1).2.1
                  have HX0 := Aside0.mk hx
                  clear hq hcond hx
                  go_wp2
                  go_end0
                  have hj := sym_join HSP.out.2.2.2.2.2.2.2.1 HSP.out.2.2.2.2.2.2.2.2.1 HSP.out.2.2.2.2.1 HSP.out.2.2.2.2.2.1 HY2.out.2.1.1 (List.Perm.refl (L2 ++ R2)) HY2.out.2.1.2 HX0.out
                  refine ⟨rfl, M1 ++ (L2 ++ R2), by have h_ := HY2.out.1; simp only [List.append_assoc] at h_ ⊢; exact h_, ⟨?_, hj.1⟩, HY2.out.2.2⟩
                  rw [HSP.out.1, HSP.out.2.1]; exact hj.2
end Go.Proofs.Ytgfmplhpoblleaa.FailW
end
