/- FailN. -/
import Derived.Test.YtgfmplhpoblleaaMB6
import Derived.Test.YtgfmplhpoblleaaMB7
section
/- fail: New. -/
namespace Go.Proofs.Ytgfmplhpoblleaa.FailW
open Go.RowKit Go.Shelf Go.Lib Go.Proofs Go.Proofs.YtgfmplhpoblleaaW.PrintWords Go.Proofs.YtgfmplhpoblleaaW.PrintLast Go.Proofs.YtgfmplhpoblleaaW.PrintMore Go.Proofs.Ytgfmplhpoblleaa.PRank Go.Proofs.Ytgfmplhpoblleaa.PFB Go.Proofs.Ytgfmplhpoblleaa.RankW Go.Proofs.Ytgfmplhpoblleaa.SortOwn Go.Proofs.Ytgfmplhpoblleaa
open Go.Proofs.Ytgfmplhpoblleaa.Cmps hiding dedup
set_option linter.unusedVariables false
set_option linter.unusedSimpArgs false

theorem visitL_len (x : List S106) (K : Nat) (n : Int) : ∀ (l : List S122) (s s' : St), visitL x K n s l = some s' → s'.od.length = s.od.length + l.length
  | [], s, s', h => by cases h; rfl
  | e :: r, s, s', h => by
    rw [visitL] at h
    cases hv : visitE x K n s e with
    | none => rw [hv] at h; cases h
    | some s2 =>
      rw [hv] at h
      have h1 := visitL_len x K n r s2 s' h
      obtain ⟨F, _, _, _, _, hs⟩ := visitE_open hv
      rw [h1, hs]; simp; omega
theorem Lk.sorted {w0 w w1 : World} {p gf go N : Nat} {t : Addr} {x : List S106} {s : St} {vod : Value} (h : Lk w0 w p gf go N t x s vod) (ys : List Int) (hg : w.grownBy w1 vod.ownBlock) (ho : w1.ownsRow w0.heap.size 3 1 vod ys.length (encI ys)) : LinksAt w1 ⟨p, 0, none⟩ t x s.fl s.ol ∧ IntsAt w1 ⟨p, 3, none⟩ ys := by
  have r1 := own_other h.fl hg (by rcases h.nf with e | e; · rw [e]; exact .inr (by simp [Value.ownBlock])
                                   · exact .inr (fun e' => e e'.symm))
  have r2 := own_other h.ol hg (by rcases h.no with e | e; · rw [e]; exact .inr (by simp [Value.ownBlock])
                                   · exact .inr (fun e' => e e'.symm))
  have b1 := blk_grown h.blk hg (fun e => by
    rcases own_ne_blk h.od h.blk (by decide) with h1 | h1
    · rw [h1] at e; cases e
    · exact h1 e.symm)
  have hb1 : Go.RowKit.Below w0.heap.size w0 w1 := ⟨hg.os.trans h.bw.os, hg.tape.trans h.bw.tape, hg.output.trans h.bw.output, Nat.le_trans h.bw.size hg.size, fun k hk => (hg.block k (Nat.lt_of_lt_of_le hk h.bw.size) (fun e => by have := own_base h.od k e.symm; omega)).trans (h.bw.block k hk)⟩
  refine ⟨⟨by rw [blk_cell b1]; rfl, ints_of_own (v := .slice (some ⟨gf, 0, none⟩) N N) (by rw [h.fll]; exact r1) (by rw [blk_cell b1]; rfl), ints_of_own (v := .slice (some ⟨go, 0, none⟩) N N) (by rw [h.oll]; exact r2) (by rw [blk_cell b1]; rfl), h.tr.below hb1⟩, ints_of_own (v := vod) ho (by rw [blk_cell b1]; rfl)⟩
theorem own_pos9 {W : World} {base : Nat} {e : TypeId} {size : Nat} {v : Value} {n : Nat} {xs : List Value} (h : W.ownsRow base e size v n xs) (hn : 0 < n) : ∃ g cap, v = .slice (some ⟨g, 0, none⟩) n cap := by
  rcases h.2 with ⟨_, h0⟩ | ⟨g, cap, _, rfl, _⟩
  · omega
  · exact ⟨g, cap, rfl⟩
set_option maxRecDepth 100000 in
theorem len_still (a : Addr) (x : List S106) (w : World) (h : TrieAt w a x) : Calls Try.prog 78 #[.pointer (some a)] w fun e w' => e = .returned (.int .i64 x.length) ∧ w' = w := by
  obtain ⟨A, c, h1, h2, h3⟩ := h
  have H := Aside0.mk h3
  clear h3
  go_enter Try.func78, Try.ntmps78
  go_wp2
  go_ret
  exact ⟨rfl, rfl⟩
/-- Zeros. -/
def zeroI (N : Nat) : Array Value := (encI (List.replicate N 0)).toArray
theorem made_zero (N : Nat) : madeCells (Value.int .i64 0).cells N = zeroI N := by
  apply Array.ext
  · simp [madeCells, zeroI, encI, encs]
  · intro i h1 h2
    simp [madeCells, zeroI, encI, encs, Value.cells, Nat.mod_one]
theorem own_zero (w : World) (base g N : Nat) (h : w.heap[g]? = some (.cells (zeroI N) 3 (0, 0))) (hb : base ≤ g) (hN : N ≤ maxLen) : w.ownsRow base 3 1 (.slice (some ⟨g, 0, none⟩) N N) N (encI (List.replicate N 0)) := by
  refine ⟨by simp [encI_len], .inr ⟨g, N, zeroI N, rfl, hb, h, Nat.le_refl _, hN, by simp [zeroI, encI_len], ?_⟩⟩
  have : (zeroI N).toList.length = N * 1 := by simp [zeroI, encI_len]
  rw [List.take_of_length_le (Nat.le_of_eq this)]
  simp [zeroI]
theorem heap_al (w : World) (o : Obj) (k : Nat) : (w.alloc o).heap[k]? = if k = w.heap.size then some o else w.heap[k]? := by
  show (w.heap.push o)[k]? = _
  rw [Array.getElem?_push]
theorem heap_dr (w : World) : w.drew.heap = w.heap := rfl
theorem sz_al (w : World) (o : Obj) : (w.alloc o).heap.size = w.heap.size + 1 := by simp
theorem nn2 (a : Nat) : ¬ a = a + 1 + 1 := by omega
theorem nn3 (a : Nat) : ¬ a = a + 1 + 1 + 1 := by omega
theorem lk_new (w wx : World) (p gf go g0 N : Nat) (t : Addr) (x : List S106) (hT : TrieAt w t x) (hb : Go.RowKit.Below w.heap.size w wx)
    (hp : wx.heap[p]? = some (.cells #[.pointer (some t), .slice (some ⟨gf, 0, none⟩) N N, .slice (some ⟨go, 0, none⟩) N N, .slice (some ⟨g0, 0, none⟩) 1 1] 99 (0, 0)))
    (hf : wx.heap[gf]? = some (.cells (zeroI N) 3 (0, 0))) (ho : wx.heap[go]? = some (.cells (zeroI N) 3 (0, 0))) (h0 : wx.heap[g0]? = some (.cells #[.int .i64 0] 3 (0, 0)))
    (b1 : w.heap.size ≤ p) (b2 : w.heap.size ≤ gf) (b3 : w.heap.size ≤ go) (b4 : w.heap.size ≤ g0) (n1 : gf ≠ go) (n2 : g0 ≠ gf) (n3 : g0 ≠ go) (hN : N ≤ maxLen) :
    Lk w wx p gf go N t x ⟨List.replicate N 0, List.replicate N 0, [0]⟩ (.slice (some ⟨g0, 0, none⟩) 1 1) :=
  ⟨hT, hb, hp, b1, own_zero wx _ gf N hf b2 hN, own_zero wx _ go N ho b3 hN, ⟨rfl, .inr ⟨g0, 1, _, rfl, b4, h0, Nat.le_refl _, by decide, rfl, rfl⟩⟩, n1, .inr (by simp [Value.ownBlock]; exact n2), .inr (by simp [Value.ownBlock]; exact n3)⟩

set_option maxHeartbeats 8000000 in
set_option maxRecDepth 100000 in
theorem fnew_calls (w : World) (t : Addr) (x : List S106) (ts : List (List Int)) (s : St) (hT : TrieAt w t x) (hSp : Sp x ts) (hG : Good x) (hx : x.length ≤ 10000) (hs : linksF x = some s) :
    Calls Try.prog 37 #[.pointer (some t)] w fun e w' => ∃ (p : Nat) (od' : List Int), e = .returned (.pointer (some ⟨p, 0, none⟩)) ∧ LinksAt w' ⟨p, 0, none⟩ t x s.fl s.ol ∧ IntsAt w' ⟨p, 3, none⟩ od' ∧ (od'.Perm s.od ∧ SegS (cmpD x) od' 0 od'.length) ∧ Go.RowKit.Below w.heap.size w w' := by
  have HT := Aside0.mk hT
  have HI := Aside0.mk (And.intro hSp (And.intro hG hs))
  clear hT hSp hG hs
  have mixed : Try.prog.follows Departure.mixedOrders = true := by kernel_rfl
  obtain ⟨i0, hi0, hz0, hs0, hb0⟩ := info_parts info3
  have hmk : ∀ W : World, (Instr.makeSlice 23 (.int .i64 (x.length : Int)) (.int .i64 (x.length : Int))).run Try.prog W = .ok (.slice (some ⟨W.heap.size, 0, none⟩) x.length x.length) (W.alloc (.cells (zeroI x.length) 3)) := fun W => by
    have := run_make W 23 3 i0 (.int .i64 0) Try.underlying23 hi0 hz0 .i64 .i64 (x.length : Int) (x.length : Int) (by omega) (by omega) (by rw [hb0]; omega) (by omega)
    rw [hs0, Int.toNat_natCast, Nat.mul_one, made_zero] at this
    exact this
  obtain ⟨N, hN⟩ : ∃ N, N = x.length := ⟨_, rfl⟩
  rw [← hN] at hmk hx
  have HN := Aside0.mk hN
  clear hi0 hz0 hs0 hb0 hN
  obtain ⟨W1, hW1⟩ : ∃ W1, W1 = w.alloc (.cells #[.pointer (some t)] 48) := ⟨_, rfl⟩
  have hq1 : W1.cell? ⟨w.heap.size, 0, none⟩ = some (.pointer (some t)) := by rw [hW1]; simp
  have hsz : W1.heap.size = w.heap.size + 1 := by rw [hW1]; simp
  have hT1 : TrieAt W1 t x := HT.out.grows (by rw [hW1]; exact (Grows.refl w).alloc _)
  have HT1 := Aside0.mk hT1
  have HW1 := Aside0.mk (And.intro hW1 hsz)
  clear hT1 hsz
  go_enter Try.func37, Try.ntmps37
  go_wp2
  rw [← hW1]
  clear hW1
  go_cut [3] (fun s3 wx => ∃ (p gf go g0 : Nat), s3 = .pointer (some ⟨p, 0, none⟩) ∧ Lk W1 wx p gf go N t x ⟨List.replicate N 0, List.replicate N 0, [0]⟩ (.slice (some ⟨g0, 0, none⟩) 1 1))
  case first =>
    go_region_held3 (fun w' => w'.cell? ⟨w.heap.size, 0, none⟩ = some (.pointer (some t)))
      (first | exact hq1 | assumption | exact cell_grows (((Grows.refl _).alloc _).drewN 1) hq1 | exact cell_grows ((((Grows.refl _).alloc _).alloc _).drewN 1) hq1 | exact cell_grows (((((Grows.refl _).alloc _).alloc _).alloc _).drewN 1) hq1 | exact cell_grows ((((((Grows.refl _).alloc _).alloc _).alloc _).alloc _).drewN 1) hq1 | go_keep)
      ((go_simp; go_at_call 78; refine (len_still t x _ (HT1.out.grows (by first | exact (Grows.refl _).drewN 1 | exact ((Grows.refl _).alloc _).drewN 1 | exact (((Grows.refl _).alloc _).alloc _).drewN 1 | exact ((((Grows.refl _).alloc _).alloc _).alloc _).drewN 1))).mono ?_; rw [← HN.out]; rintro e w2 ⟨rfl, rfl⟩))
    all_goals (
      go_wp2_with fail
      go_meet
      first
        | (refine ⟨W1.heap.size + 1 + 1 + 1, W1.heap.size, W1.heap.size + 1, W1.heap.size + 1 + 1, rfl, lk_new W1 _ _ _ _ _ N t x HT1.out ((((((Grows.refl W1).alloc _).alloc _).alloc _).alloc _).drewN 1).below ?_ ?_ ?_ ?_ ?_ ?_ ?_ ?_ ?_ ?_ ?_ ?_⟩; (all_goals (first
            | (simp only [heap_dr, heap_al, sz_al]; simp [nn2, nn3]; done)
            | (show _ ≤ maxLen; unfold maxLen; omega)
            | omega)))
        | (refine ⟨W1.heap.size + 1 + 1 + 1, W1.heap.size, W1.heap.size + 1 + 1, W1.heap.size + 1, rfl, lk_new W1 _ _ _ _ _ N t x HT1.out ((((((Grows.refl W1).alloc _).alloc _).alloc _).alloc _).drewN 1).below ?_ ?_ ?_ ?_ ?_ ?_ ?_ ?_ ?_ ?_ ?_ ?_⟩; (all_goals (first
            | (simp only [heap_dr, heap_al, sz_al]; simp [nn2, nn3]; done)
            | (show _ ≤ maxLen; unfold maxLen; omega)
            | omega)))
        | (refine ⟨W1.heap.size + 1 + 1 + 1, W1.heap.size + 1, W1.heap.size + 1 + 1, W1.heap.size, rfl, lk_new W1 _ _ _ _ _ N t x HT1.out ((((((Grows.refl W1).alloc _).alloc _).alloc _).alloc _).drewN 1).below ?_ ?_ ?_ ?_ ?_ ?_ ?_ ?_ ?_ ?_ ?_ ?_⟩; (all_goals (first
            | (simp only [heap_dr, heap_al, sz_al]; simp [nn2, nn3]; done)
            | (show _ ≤ maxLen; unfold maxLen; omega)
            | omega)))
        | (refine ⟨W1.heap.size + 1 + 1 + 1, W1.heap.size + 1, W1.heap.size, W1.heap.size + 1 + 1, rfl, lk_new W1 _ _ _ _ _ N t x HT1.out ((((((Grows.refl W1).alloc _).alloc _).alloc _).alloc _).drewN 1).below ?_ ?_ ?_ ?_ ?_ ?_ ?_ ?_ ?_ ?_ ?_ ?_⟩; (all_goals (first
            | (simp only [heap_dr, heap_al, sz_al]; simp [nn2, nn3]; done)
            | (show _ ≤ maxLen; unfold maxLen; omega)
            | omega)))
        | (refine ⟨W1.heap.size + 1 + 1 + 1, W1.heap.size + 1 + 1, W1.heap.size + 1, W1.heap.size, rfl, lk_new W1 _ _ _ _ _ N t x HT1.out ((((((Grows.refl W1).alloc _).alloc _).alloc _).alloc _).drewN 1).below ?_ ?_ ?_ ?_ ?_ ?_ ?_ ?_ ?_ ?_ ?_ ?_⟩; (all_goals (first
            | (simp only [heap_dr, heap_al, sz_al]; simp [nn2, nn3]; done)
            | (show _ ≤ maxLen; unfold maxLen; omega)
            | omega)))
        | (refine ⟨W1.heap.size + 1 + 1 + 1, W1.heap.size + 1 + 1, W1.heap.size, W1.heap.size + 1, rfl, lk_new W1 _ _ _ _ _ N t x HT1.out ((((((Grows.refl W1).alloc _).alloc _).alloc _).alloc _).drewN 1).below ?_ ?_ ?_ ?_ ?_ ?_ ?_ ?_ ?_ ?_ ?_ ?_⟩; (all_goals (first
            | (simp only [heap_dr, heap_al, sz_al]; simp [nn2, nn3]; done)
            | (show _ ≤ maxLen; unfold maxLen; omega)
            | omega))))
  case rest =>
    obtain ⟨p, gf, go, g0, rfl, hL⟩ := hcut
    obtain rfl := HN.out
    have h0x : 0 < x.length := HI.out.1.lt HI.out.1.root
    have L2 := hL.setOl 0 (-1)
    have c2 := hL.c2
    have o0 := hL.olAt 0 h0x
    have oz := hL.olz 0
    have ix : (0 : Int) < (x.length : Int) := by omega
    have HL := Aside0.mk L2
    clear L2 hL
    go_wp2
    go_loopg [4] (x.length + 1) (fun kq iv wr => ∃ (i : Nat) (s1 : St) (vod1 : Value), iv = .int .i64 i ∧ bfs x (x.length + 1) kq i s1 = some s ∧ SInv x ts s1 ∧ Lk W1 wr p gf go x.length t x s1 vod1 ∧ i + kq = x.length + 1 ∧ s1.od.length ≤ 1 + i * 10000)
    case atStart =>
      exact ⟨0, st0 x.length, _, rfl, HI.out.2.2, sinv0 HI.out.1, HL.out, by omega, by simp [st0]⟩
    case round =>
      obtain ⟨i, s1, vod1, rfl, hbf, hS, hL, hik, hod⟩ := hrel
      obtain ⟨A5, c5, e5⟩ := Kd.R_slice (show Kd.R (Kd.int .i64) 3 wr W1.heap.size (fun _ => True) vod1 s1.od from Kd.R_of_own hL.od (fun _ _ => trivial))
      subst e5
      have c3 := hL.c3
      by_cases hlt : i < s1.od.length
      · cases gk with
        | zero => cases hbf
        | succ gk =>
          rw [bfs, List.getElem?_eq_getElem hlt] at hbf
          simp only at hbf
          obtain ⟨n, hn, hnx⟩ := hS.od _ (List.getElem_mem hlt)
          rw [hn] at hbf
          have hit : s1.od[i]? = some (n : Int) := by rw [List.getElem?_eq_getElem hlt, hn]
          obtain ⟨ad, hA5, hcell⟩ : ∃ g, A5 = some ⟨g, 0, none⟩ ∧ wr.cell? ⟨g, i, none⟩ = some (.int .i64 (n : Int)) := by
            obtain ⟨g, cp, hv⟩ := own_pos9 hL.od (by omega)
            injection hv with h1 h2 h3
            subst h1
            refine ⟨g, rfl, ?_⟩
            have := own_cells (cap := c5) (by have := hL.od; exact this) (encI_at s1.od i hlt)
            rw [hn] at this
            exact this
          subst hA5
          have hedges : (nodeOf x n).f3.length ≤ x.length := by rw [nodeOf_nat hnx]; exact HI.out.1.few _ (List.getElem_mem _)
          have hb9 : s1.od.length + (nodeOf x n).f3.length ≤ 10000000000 := (by have h_ : i ≤ 10001 := (by omega); omega)
          have z1 : (i : Int) < (s1.od.length : Int) := by omega
          have HQ := Aside0.mk (And.intro hbf (And.intro hS (And.intro hL (And.intro hod hedges))))
          have hik' := hik
          clear hbf hS hL hod hn hit
          go_wp2_with ((go_at_call 79; refine (visit_calls W1 _ p gf go t x ts s1 _ n (x.length + 1) HQ.out.2.2.1 HQ.out.2.1 HI.out.1 HI.out.2.1 hnx (fun u hu => Nat.lt_succ_of_lt (HI.out.1.short hu)) (by omega) hb9).mono ?_; rintro e w2 ⟨rfl, s2, vod2, hv2, hS2, hL2⟩; have HZ := Aside0.mk (And.intro hv2 (And.intro hS2 hL2)); clear hv2 hS2 hL2))
          go_roundg gk
          case measure => omega
          case rel =>
            have hbf := HQ.out.1
            rw [HZ.out.1] at hbf
            refine ⟨i + 1, s2, vod2, by go_num, hbf, HZ.out.2.1, HZ.out.2.2, by omega, ?_⟩
            have h_1 := visitL_len x (x.length + 1) n _ _ _ HZ.out.1
            have h_2 := HQ.out.2.2.2
            omega
      · cases gk with
        | zero => cases hbf
        | succ gk =>
          rw [bfs, List.getElem?_eq_none (by omega)] at hbf
          obtain rfl := Option.some.inj hbf
          obtain ⟨s', hs', hfin⟩ := links_ok HI.out.1
          obtain rfl := Option.some.inj (HI.out.2.2.symm.trans hs')
          have hpos : 0 < s1.od.length := List.length_pos_iff.2 (fun e_ => by have := hfin.all 0 (HI.out.1.lt HI.out.1.root); rw [e_] at this; cases this)
          obtain ⟨g, cp, hv⟩ := own_pos9 hL.od hpos
          injection hv with h1 h2 h3
          subst h1 h3
          have hbx := cell_below hL.bw hq1
          have z1 : ¬ ((i : Int) < (s1.od.length : Int)) := by omega
          have hlen9 : s1.od.length ≤ 1000000000000 := by have h_ : i ≤ 10001 := (by omega); omega
          have hgW : W1.heap.size ≤ g := own_base hL.od g rfl
          have hSrt : Srt W1 wr w.heap.size g c5 t x s1.od := ⟨hL.tr, hL.bw, hbx, by have := HW1.out.2; omega, hL.od⟩
          have hnd : ∀ u ∈ s1.od, NdS x u := fun u hu => hfin.mem u hu
          have hord : OrdC (NdS x) (cmpD x) := cmpD_ord (by omega) (fun y hy => by
            obtain ⟨m, hm⟩ := List.getElem?_of_mem hy
            have hml := (List.getElem?_eq_some_iff.1 hm).1
            have hmt : m < (ts).length := by have := HI.out.1.len; omega
            have h1 := HI.out.1.depth m y ts[m] hm (List.getElem?_eq_getElem hmt)
            have h2 := HI.out.1.short (List.getElem_mem hmt)
            omega)
          have HQ := Aside0.mk (And.intro hL (And.intro hSrt (And.intro hnd hord)))
          clear hL hSrt hnd hord hbf hS hod hik hs' hfin hpos hgW
          go_wp2_with ((go_at_call 80; refine (sort_nodes W1 _ w.heap.size g c5 t x s1.od s1.od.length rfl HQ.out.2.1 hlen9 HQ.out.2.2.2 HQ.out.2.2.1).mono ?_; rintro e w2 ⟨rfl, ys, hy2, hyp, hyg⟩; have HZ := Aside0.mk (And.intro hy2 (And.intro hyp hyg)); clear hy2 hyp hyg))
          go_ret
          have hL := HQ.out.1
          have hys : ys.length = s1.od.length := HZ.out.2.1.1.length_eq
          have hrow := HZ.out.1.row
          have L9 := hL.sorted ys HZ.out.2.2 (show w2.ownsRow W1.heap.size 3 1 (.slice (some ⟨g, 0, none⟩) s1.od.length c5) ys.length (encI ys) by rw [← hys]; exact hrow)
          refine ⟨p, ys, rfl, L9.1, L9.2, ⟨HZ.out.2.1.1, by rw [hys]; exact HZ.out.2.1.2⟩, ?_⟩
          have hB := HZ.out.1.bw
          have h_1 := HW1.out.1
          exact (show Go.RowKit.Below w.heap.size w W1 by rw [h_1]; exact ((Grows.refl w).alloc _).below).trans (hB.mono (by have := HW1.out.2; omega))
end Go.Proofs.Ytgfmplhpoblleaa.FailW
end
