/- FailH. -/
import Derived.Test.YtgfmplhpoblleaaMB5
import Derived.Deep.AppendLies
import Derived.Deep.RegionLaw
import Derived.Deep.DeepCutAuto
section
/- trie: add, walked. -/
namespace Go.Proofs.Ytgfmplhpoblleaa.FailW
open Go.RowKit Go.Shelf Go.Lib Go.Proofs Go.Proofs.YtgfmplhpoblleaaW.PrintWords Go.Proofs.YtgfmplhpoblleaaW.PrintLast Go.Proofs.YtgfmplhpoblleaaW.PrintMore Go.Proofs.Ytgfmplhpoblleaa.PRank Go.Proofs.Ytgfmplhpoblleaa.PFB Go.Proofs.Ytgfmplhpoblleaa.RankW Go.Proofs.Ytgfmplhpoblleaa.SortOwn Go.Proofs.Ytgfmplhpoblleaa
open Go.Proofs.Ytgfmplhpoblleaa.Cmps hiding dedup
set_option linter.unusedVariables false
set_option linter.unusedSimpArgs false

theorem encs_snoc (l : List Int) (n : Int) : encs (Value.int .i64) (l ++ [n]) = encs (Value.int .i64) l ++ [.int .i64 n] := by simp [encs]
theorem own_pos {W : World} {base : Nat} {e : TypeId} {size : Nat} {v : Value} {n : Nat} {xs : List Value} (h : W.ownsRow base e size v n xs) (hn : 0 < n) : ∃ g cap, v = .slice (some ⟨g, 0, none⟩) n cap := by
  rcases h.2 with ⟨_, h0⟩ | ⟨g, cap, _, rfl, _⟩
  · omega
  · exact ⟨g, cap, rfl⟩
theorem info106 : (Try.prog.info? 106).map (fun i => (i.zero, i.size, i.bytes)) = some (some (.agg #[.int .i64 0, .int .i64 0, .int .i64 0, .slice none 0 0, .slice none 0 0]), 5, 72) := by kernel_rfl
/-- What a trie that is being built shows of a node. -/
structure Seen (w : World) (g gn cap i : Nat) (vn : Value) (x : List S106) (y : S106) (p : Value × Value) : Prop where
  c0 : w.cell? ⟨g, 0, none⟩ = some vn
  d0 : w.cell? ⟨gn, i * 5, none⟩ = some (.int .i64 y.f0)
  d1 : w.cell? ⟨gn, i * 5 + 1, none⟩ = some (.int .i64 y.f1)
  d2 : w.cell? ⟨gn, i * 5 + 2, none⟩ = some (.int .i64 y.f2)
  d3 : w.cell? ⟨gn, i * 5 + 3, none⟩ = some p.1
  d4 : w.cell? ⟨gn, i * 5 + 4, none⟩ = some p.2
  z0 : w.frozen? ⟨g, 0, none⟩ = false
  z3 : w.frozen? ⟨gn, i * 5 + 3, none⟩ = false
  z4 : w.frozen? ⟨gn, i * 5 + 4, none⟩ = false
  ne : g ≠ gn
theorem Bld.seen {w : World} {base g gn cap : Nat} {x : List S106} {L : List (Value × Value)} (h : Bld w base g (.slice (some ⟨gn, 0, none⟩) x.length cap) x L) (i : Nat) (hi : i < x.length) (hL : i < L.length) : Seen w g gn cap i (.slice (some ⟨gn, 0, none⟩) x.length cap) x x[i] L[i] := by
  have at_ : ∀ j, j < 5 → w.cell? ⟨gn, i * 5 + j, none⟩ = (ncell x[i] L[i])[j]? := by
    intro j hj
    have := ncells_at x L h.len i hi j hj
    rw [← this]
    have hlen : i * 5 + j < (ncells x L).length := by rw [ncells_len x L h.len]; omega
    rw [List.getElem?_eq_getElem hlen]
    exact own_cells h.row (List.getElem?_eq_getElem hlen)
  obtain ⟨cur, hcur, _⟩ := own_blk h.row
  refine ⟨by rw [blk_cell h.blk]; rfl, at_ 0 (by omega), at_ 1 (by omega), at_ 2 (by omega), at_ 3 (by omega), at_ 4 (by omega), blk_frozen h.blk _, own_frozen h.row _, own_frozen h.row _, blk_ne h.blk hcur (by decide)⟩

theorem below_grown {b : Nat} {w0 w w' : World} {row : Option Nat} (h : Go.RowKit.Below b w0 w) (hb : b ≤ w.heap.size) (hg : w.grownBy w' row) (hr : ∀ k, row = some k → b ≤ k) : Go.RowKit.Below b w0 w' :=
  ⟨hg.os.trans h.os, hg.tape.trans h.tape, hg.output.trans h.output, Nat.le_trans h.size hg.size, fun k hk => (hg.block k (Nat.lt_of_lt_of_le hk hb) (fun e => by have := hr k e.symm; omega)).trans (h.block k hk)⟩
/-- What a write to a node's edges leaves. -/
theorem Bld.afterE {w w1 : World} {base g gn cap : Nat} {x : List S106} {L : List (Value × Value)} (h : Bld w base g (.slice (some ⟨gn, 0, none⟩) x.length cap) x L) (i : Nat) (hi : i < x.length) (hL : i < L.length) (hg : w.grownBy w1 L[i].1.ownBlock) :
    w1.cell? ⟨g, 0, none⟩ = some (.slice (some ⟨gn, 0, none⟩) x.length cap) ∧ w1.cell? ⟨gn, i * 5 + 3, none⟩ = some L[i].1 ∧ w1.frozen? ⟨gn, i * 5 + 3, none⟩ = false := by
  have hnd := h.nd i _ _ (List.getElem?_eq_getElem hi) (List.getElem?_eq_getElem hL)
  have r1 := own_other h.row hg (own_type_ne h.row hnd.e (by decide))
  have b1 : w1.heap[g]? = _ := blk_grown h.blk hg fun e => by
    rcases own_ne_blk hnd.e h.blk (by decide) with h1 | h1
    · rw [h1] at e; cases e
    · exact h1 e.symm
  refine ⟨by rw [blk_cell b1]; rfl, ?_, own_frozen r1 _⟩
  have hlen : i * 5 + 3 < (ncells x L).length := by rw [ncells_len x L h.len]; omega
  have := ncells_at x L h.len i hi 3 (by omega)
  rw [List.getElem?_eq_getElem hlen] at this
  exact (own_cells r1 (List.getElem?_eq_getElem hlen)).trans this
theorem Bld.afterD {w w1 : World} {base g gn cap : Nat} {x : List S106} {L : List (Value × Value)} (h : Bld w base g (.slice (some ⟨gn, 0, none⟩) x.length cap) x L) (i : Nat) (hi : i < x.length) (hL : i < L.length) (hg : w.grownBy w1 L[i].2.ownBlock) :
    w1.cell? ⟨g, 0, none⟩ = some (.slice (some ⟨gn, 0, none⟩) x.length cap) ∧ w1.cell? ⟨gn, i * 5 + 4, none⟩ = some L[i].2 ∧ w1.frozen? ⟨gn, i * 5 + 4, none⟩ = false := by
  have hnd := h.nd i _ _ (List.getElem?_eq_getElem hi) (List.getElem?_eq_getElem hL)
  have r1 := own_other h.row hg (own_type_ne h.row hnd.d (by decide))
  have b1 : w1.heap[g]? = _ := blk_grown h.blk hg fun e => by
    rcases own_ne_blk hnd.d h.blk (by decide) with h1 | h1
    · rw [h1] at e; cases e
    · exact h1 e.symm
  refine ⟨by rw [blk_cell b1]; rfl, ?_, own_frozen r1 _⟩
  have hlen : i * 5 + 4 < (ncells x L).length := by rw [ncells_len x L h.len]; omega
  have := ncells_at x L h.len i hi 4 (by omega)
  rw [List.getElem?_eq_getElem hlen] at this
  exact (own_cells r1 (List.getElem?_eq_getElem hlen)).trans this

set_option maxHeartbeats 8000000 in
set_option maxRecDepth 100000 in
theorem add_calls (g : Nat) (vn : Value) (x : List S106) (L : List (Value × Value)) (ts : List (List Int)) (n : Int) (A : Option Addr) (c : Nat) (pl : List Int) (w0 w : World)
    (hB : Bld w w0.heap.size g vn x L) (hS : Sp x ts) (hBW : Go.RowKit.Below w0.heap.size w0 w) (hP : Kd.C (Kd.int .i64) w0 A pl.length pl) (hM : ∀ y ∈ x, y.f4.length ≤ 1000000) (hsz : x.length + pl.length ≤ 1000000000) :
    Calls Try.prog 77 #[.pointer (some ⟨g, 0, none⟩), .int .i64 n, .slice A pl.length c] w fun e w' => e = .returned (.tuple #[]) ∧ ∃ vn' L', Bld w' w0.heap.size g vn' (addT x n pl) L' ∧ Go.RowKit.Below w0.heap.size w0 w' := by
  have HP := Aside0.mk hP
  have HI := Aside0.mk (And.intro hB (And.intro hS (And.intro hBW hM)))
  clear hP hB hS hBW hM
  go_enter Try.func77, Try.ntmps77
  go_wp2
  go_loopw [6, 14] (fun av iv wr => ∃ (j a : Nat) (vn1 : Value) (x1 : List S106) (L1 : List (Value × Value)) (ts1 : List (List Int)) (s1 : List Int), av = .int .i64 a ∧ iv = .int .i64 j ∧ j ≤ pl.length ∧ Bld wr w0.heap.size g vn1 x1 L1 ∧ Sp x1 ts1 ∧ ts1[a]? = some s1 ∧ lay x 0 pl = lay x1 a (pl.drop j) ∧ x1.length ≤ x.length + j ∧ (∀ y ∈ x1, y.f4.length ≤ 1000000) ∧ Go.RowKit.Below w0.heap.size w0 wr) (fun av iv wr => pl.length - (intOf iv).toNat)
  case atStart =>
    exact ⟨0, 0, vn, x, L, ts, [], rfl, rfl, Nat.zero_le _, HI.out.1, HI.out.2.1, HI.out.2.1.root, rfl, Nat.le_refl _, HI.out.2.2.2, HI.out.2.2.1⟩
  case round =>
    obtain ⟨j, a, vn1, x1, L1, ts1, s1, rfl, rfl, hj, hB, hS, hs, hlay, hlen, hM, hBW⟩ := hrel
    have hax : a < x1.length := by have := (List.getElem?_eq_some_iff.1 hs).1; have := hS.len; omega
    have haL : a < L1.length := by have := hB.len; omega
    obtain ⟨gn, cap, rfl⟩ := own_pos hB.row (by omega)
    obtain ⟨c0, d0, d1, d2, d3, d4, z0, z3, z4, ne⟩ := hB.seen a hax haL
    have hnd := hB.nd a _ _ (List.getElem?_eq_getElem hax) (List.getElem?_eq_getElem haL)
    have hcap : x1.length ≤ cap := by obtain ⟨_, _, h, _⟩ := own_blk hB.row; exact h
    have ia : (a : Int) < (x1.length : Int) := by omega
    by_cases hlt : j < pl.length
    · obtain ⟨pa, rfl, hpc⟩ := int_at (Kd.C_below HP.out hBW) j hlt
      have hd : pl.drop j = pl[j] :: pl.drop (j + 1) := List.drop_eq_getElem_cons hlt
      obtain ⟨cc, hcc⟩ : ∃ cc, cc = pl[j] := ⟨_, rfl⟩
      rw [hd] at hlay
      rw [← hcc] at hpc hlay
      have hx1 : x1[a]? = some x1[a] := List.getElem?_eq_getElem hax
      obtain ⟨A3, c3, e3⟩ := Kd.R_slice (edges_own hnd.e)
      have hC3 : x1[a].f3.length ≤ c3 ∧ Kd.C k122 wr A3 x1[a].f3.length x1[a].f3 := by
        obtain ⟨A', c', he, hl, hC⟩ := Kd.R_reads (edges_own hnd.e)
        rw [e3] at he
        injection he with h1 _ h3
        subst h1 h3
        exact ⟨hl, hC⟩
      have hrise := hS.rise _ (List.mem_of_getElem? hx1)
      have hfew := hS.few _ (List.mem_of_getElem? hx1)
      rw [e3] at d3
      rw [lay, hx1] at hlay
      simp only at hlay
      obtain ⟨b, hb⟩ : ∃ b, has x1[a].f3 cc = b := ⟨_, rfl⟩
      cases b with
      | true =>
        rw [if_pos hb] at hlay
        obtain ⟨e, he, h1, h2, hpl, h3⟩ := has_at hb
        rw [h2] at hlay
        obtain ⟨q, e1, s', e2, e3'⟩ := hS.edge a _ hx1 e he
        obtain ⟨ad, rfl, b0, b1⟩ := edge_at hC3.2 _ hpl
        rw [h3, e1] at b1
        have p1 : (place x1[a].f3 cc : Int) < (x1[a].f3.length : Int) := by omega
        have p0 : (0 : Int) ≤ (place x1[a].f3 cc : Int) := by omega
        generalize hpp : place x1[a].f3 cc = pp at *
        have HH := Aside0.mk (And.intro hB (And.intro hS (And.intro hs (And.intro hlay (And.intro hM (And.intro hBW (And.intro hC3 (And.intro hrise (And.intro hb (And.intro e2 (And.intro e3' (And.intro hpp h1))))))))))))
        clear hB hS hs hlay hM hBW hC3 hrise hb e2 e3' h1 h2 h3 hnd hx1 hd hcc he b0 e3
        go_wp2_with ((go_at_call 100; refine (place_calls ⟨gn, a * 5, none⟩ (some ad) c3 x1[a].f3 cc _ d3 HH.out.2.2.2.2.2.2.1.2 (by omega) HH.out.2.2.2.2.2.2.2.1).mono ?_; rintro ee w2 ⟨rfl, hg2⟩; replace c0 := cell_grows hg2 c0; replace d3 := cell_grows hg2 d3; replace b1 := cell_grows hg2 b1; have G2 := Aside0.mk hg2; clear hg2; rw [HH.out.2.2.2.2.2.2.2.2.1, HH.out.2.2.2.2.2.2.2.2.2.2.2.1]))
        obtain ⟨hB, hS, hs, hlay, hM, hBW, hC3, hrise, hb, e2, e3', hpp, h1⟩ := HH.out
        refine ⟨⟨j + 1, q, _, x1, L1, ts1, s' ++ [e.f0], rfl, by go_num, by omega, hB.below G2.out.below, hS, e3', ?_, by omega, hM, hBW.trans (G2.out.below.mono hBW.size)⟩, by simp only [intOf]; omega⟩
        rw [hlay, e1, Int.toNat_natCast]
      | false =>
        rw [if_neg (by rw [hb]; simp)] at hlay
        obtain ⟨y, hy⟩ : ∃ y, x1[a] = y := ⟨_, rfl⟩
        rw [hy] at hx1 hnd d0 d1 d2 d3 hC3 hrise hfew hb hlay e3
        have dd : IntKind.i64.wrap (y.f2 + 1) = y.f2 + 1 := IntWalk.i64_in _ (by have := hS.depth a y s1 hx1 hs; have := hS.short (List.mem_of_getElem? hs); omega)
        obtain ⟨i0, hi0, hz0, hs0, hb0⟩ := info_parts info106
        have HH := Aside0.mk (And.intro hB (And.intro hS (And.intro hs (And.intro hlay (And.intro hM (And.intro hBW (And.intro hC3 (And.intro hrise hb))))))))
        have HN := Aside0.mk (And.intro hx1 hnd)
        have HI0 := Aside0.mk (And.intro hi0 (And.intro hz0 (And.intro hs0 hb0)))
        clear hB hS hs hlay hM hBW hC3 hrise hb hnd hx1 hd hcc hi0 hz0 hs0 hb0
        go_wp2_with ((go_at_call 100; refine (place_calls ⟨gn, a * 5, none⟩ A3 c3 y.f3 cc _ d3 HH.out.2.2.2.2.2.2.1.2 (by omega) HH.out.2.2.2.2.2.2.2.1).mono ?_; rintro ee w2 ⟨rfl, hg2⟩; replace c0 := cell_grows hg2 c0; replace d2 := cell_grows hg2 d2; replace d3 := cell_grows hg2 d3; have f0 := HH.out.1.below hg2.below; have G2 := Aside0.mk (And.intro f0 hg2); clear hg2 f0; rw [HH.out.2.2.2.2.2.2.2.2]))
        have hrow2 : ∀ o : Obj, ((w2.alloc o).drew).ownsRow w0.heap.size 106 5 (.slice (some ⟨gn, 0, none⟩) x1.length cap) x1.length (ncells x1 L1) := fun o => pw_own_below G2.out.1.row (((Grows.refl w2).alloc o).drewN 1).below
        have hbs : w0.heap.size ≤ w2.heap.size := Nat.le_trans HH.out.2.2.2.2.2.1.size G2.out.2.below.size
        have hblk2 : ∀ o : Obj, ((w2.alloc o).drew).heap[g]? = some (.cells #[.slice (some ⟨gn, 0, none⟩) x1.length cap] 96 (0, 0)) := fun o => blk_below G2.out.1.blk (((Grows.refl w2).alloc o).drewN 1).below
        have HR2 := Aside0.mk (And.intro hrow2 (And.intro hbs hblk2))
        clear hrow2 hbs hblk2
        have c02 : ((w2.alloc (.cells #[.int .i64 a, .int .i64 cc, .int .i64 (y.f2 + 1), .slice none 0 0, .slice none 0 0] 106)).drew).cell? ⟨g, 0, none⟩ = some (.slice (some ⟨gn, 0, none⟩) x1.length cap) := by rw [blk_cell (HR2.out.2.2 _)]; rfl
        have ne' : some g ≠ (Value.slice (some ⟨gn, 0, none⟩) x1.length cap).ownBlock := by simp [Value.ownBlock]; exact ne
        go_cut [] (fun wx => ∃ (g3 cap3 : Nat) (L2 : List (Value × Value)), Bld wx w0.heap.size g (.slice (some ⟨g3, 0, none⟩) (x1.length + 1) cap3) (x1 ++ [(⟨a, cc, y.f2 + 1, [], []⟩ : S106)]) L2 ∧ L2[a]? = some L1[a] ∧ Go.RowKit.Below w0.heap.size w0 wx)
        case first =>
          go_region_law (refine step_append_lies _ rfl (.tmp 51) (.tmp 64) 94 rfl w0.heap.size 106 i0 (.agg #[.int .i64 0, .int .i64 0, .int .i64 0, .slice none 0 0, .slice none 0 0]) 5 72 Try.underlying94 HI0.out.1 HI0.out.2.1 HI0.out.2.2.1 HI0.out.2.2.2 rfl (by decide) (.slice (some ⟨gn, 0, none⟩) x1.length cap) x1.length (ncells x1 L1) (by simp [Act.eval, Act.put]) (HR2.out.1 _) ⟨w2.heap.size, 0, none⟩ 1 1 [.int .i64 a, .int .i64 cc, .int .i64 (y.f2 + 1), .slice none 0 0, .slice none 0 0] (by simp [Act.eval, Act.put]) rfl (World.news_of_block (heap_alloc_new _ _)) (by simp [Value.oneCell']) (by decide) (by unfold maxLen; omega) (by omega) (by have := HR2.out.2.1; simp; omega) _ rfl ?_; intro g3 cap3 w3 ho3 hg3 hat3 hlt3; have b3 := blk_grown (HR2.out.2.2 _) hg3 ne'; have k3 : w3.cell? ⟨g, 0, none⟩ = some (.slice (some ⟨gn, 0, none⟩) x1.length cap) := (by rw [blk_cell b3]; rfl); have q3 := blk_frozen b3 0; have H3 := Aside0.mk (And.intro ho3 hg3); clear ho3 hg3 b3)
          all_goals (
            go_wp2_with fail
            go_meet
            · skip
              have B3 := G2.out.1.below (((Grows.refl w2).alloc (.cells #[.int .i64 a, .int .i64 cc, .int .i64 (y.f2 + 1), .slice none 0 0, .slice none 0 0] 106)).drewN 1).below
              refine ⟨g3, cap3, _, Bld.node B3 a cc (y.f2 + 1) H3.out.2 H3.out.1, ?_, ?_⟩
              · rw [List.getElem?_append_left haL, List.getElem?_eq_getElem haL]
              · have q1 : Go.RowKit.Below w0.heap.size w0 ((w2.alloc (.cells #[.int .i64 a, .int .i64 cc, .int .i64 (y.f2 + 1), .slice none 0 0, .slice none 0 0] 106)).drew) := (HH.out.2.2.2.2.2.1.trans (G2.out.2.below.mono HH.out.2.2.2.2.2.1.size)).trans ((((Grows.refl w2).alloc _).drewN 1).below.mono HR2.out.2.1)
                exact Go.RowKit.Below.setCell (p := ⟨g, 0, none⟩) (below_grown q1 q1.size H3.out.2 (fun k hk => own_base (HR2.out.1 (.cells #[] 0)) k hk)) G2.out.1.hg _)
        case rest =>
          obtain ⟨g3, cap3, L2, B4, hLL, hBW4⟩ := hcut
          obtain ⟨x2, hx2⟩ : ∃ x2, x2 = x1 ++ [(⟨a, cc, y.f2 + 1, [], []⟩ : S106)] := ⟨_, rfl⟩
          have hl2 : x2.length = x1.length + 1 := by rw [hx2]; simp
          rw [← hx2, ← hl2] at B4
          have hLl : L2.length = x2.length := B4.len
          have hy2 : x2[a]? = some y := by rw [hx2, List.getElem?_append_left hax]; exact HN.out.1
          have hya : x2[a]'(by omega) = y := (List.getElem?_eq_some_iff.1 hy2).2
          have hLa : L2[a]'(by omega) = L1[a] := (List.getElem?_eq_some_iff.1 hLL).2
          obtain ⟨k0, _, _, _, k3, _, _, _, _, _⟩ := B4.seen a (by omega) (by omega)
          rw [hl2] at k0
          rw [hLa, e3] at k3
          have HB4 := Aside0.mk (show ∀ o : Obj, Bld ((wc.alloc o).drew) w0.heap.size g _ x2 L2 from fun o => B4.below (((Grows.refl wc).alloc o).drewN 1).below)
          have k04 : ((wc.alloc (.cells #[.int .i64 cc, .int .i64 x1.length] 122)).drew).cell? ⟨g, 0, none⟩ = some (.slice (some ⟨g3, 0, none⟩) (x1.length + 1) cap3) := by rw [← hl2, blk_cell (HB4.out _).blk]; rfl
          have k34 : ((wc.alloc (.cells #[.int .i64 cc, .int .i64 x1.length] 122)).drew).cell? ⟨g3, a * 5 + 3, none⟩ = some (.slice A3 y.f3.length c3) := cell_grows (((Grows.refl wc).alloc _).drewN 1) k3
          have hb4 : w0.heap.size ≤ wc.heap.size := hBW4.size
          have ia4 : (a : Int) < (x1.length : Int) + 1 := by omega
          have HE := Aside0.mk (show ∀ o : Obj, Kd.R k122 122 ((wc.alloc o).drew) w0.heap.size (fun _ => True) (.slice A3 y.f3.length c3) y.f3 from fun o => by
            have := ((HB4.out o).nd a _ _ (by rw [hy2]) (List.getElem?_eq_getElem (by omega))).e
            rw [hLa, e3] at this
            exact edges_own this)
          have hne4 : (Value.slice A3 y.f3.length c3).ownBlock ≠ some wc.heap.size := fun e => by
            have h1 := (B4.nd a _ _ (by rw [hy2]) (List.getElem?_eq_getElem (by omega))).e
            rw [hLa, e3] at h1
            have := own_lt h1 _ e
            omega
          have HK := Aside0.mk (And.intro B4 (And.intro hx2 (And.intro hBW4 (And.intro hya (And.intro hLa e3)))))
          clear B4 hx2 hya hBW4
          go_wp2
          go_cut [] (fun wx => ∃ (vn' : Value) (L' : List (Value × Value)), Bld wx w0.heap.size g vn' (grownT x1 a y cc) L' ∧ Go.RowKit.Below w0.heap.size w0 wx)
          case first =>
            go_region_law ((go_simp; go_at_call 101; refine (insert_edge (.slice A3 y.f3.length c3) y.f3 (place y.f3 cc) ⟨cc, x1.length⟩ wc.heap.size w0.heap.size _ (HE.out _) (place_le _ _) (by simp; omega) (by omega) (heap_alloc_new _ _) hne4).mono ?_; rintro ee w5 ⟨v5, rfl, hv5, hg5, hat5⟩; obtain ⟨A5, c5, e5⟩ := Kd.R_slice hv5; subst e5; obtain ⟨m0, m3, mz⟩ := (HB4.out _).afterE a (by omega) (by omega) (w1 := w5) (by rw [hLa, e3]; exact hg5); rw [hl2] at m0; have H5 := Aside0.mk (And.intro hv5 (And.intro hg5 hat5)); clear hv5 hg5 hat5))
            all_goals (
              go_wp2_with fail
              go_meet
              · skip
                obtain ⟨B4, hx2, hBW4, hya, -, -⟩ := HK.out
                have E5 := (HB4.out (.cells #[.int .i64 cc, .int .i64 x1.length] 122)).edges a (by omega) (by omega) _ (putEdge y.f3 cc x1.length) (by rw [hLa, e3]; exact H5.out.2.1) (own_edges H5.out.1) (by rw [hLa, e3]; rcases H5.out.2.2 with h | ⟨b, h1, h2⟩; exact .inl h; exact .inr ⟨b, h1, h2⟩)
                have hgr : x2.set a ⟨(x2[a]'(by omega)).f0, (x2[a]'(by omega)).f1, (x2[a]'(by omega)).f2, putEdge y.f3 cc x1.length, (x2[a]'(by omega)).f4⟩ = grownT x1 a y cc := by rw [hya, hx2]; rfl
                rw [hgr] at E5
                have hll : (y.f3.take (place y.f3 cc) ++ (⟨cc, (x1.length : Int)⟩ : S122) :: y.f3.drop (place y.f3 cc)).length = min (place y.f3 cc) y.f3.length + (y.f3.length - place y.f3 cc + 1) := by simp
                rw [hll] at E5
                refine ⟨_, _, E5, ?_⟩
                have q1 : Go.RowKit.Below w0.heap.size w0 ((wc.alloc (.cells #[.int .i64 cc, .int .i64 x1.length] 122)).drew) := hBW4.trans ((((Grows.refl wc).alloc _).drewN 1).below.mono hb4)
                exact Go.RowKit.Below.setCell (p := ⟨g3, a * 5 + 3, none⟩) (below_grown q1 q1.size H5.out.2.1 (fun k hk => own_base (own_edges (HE.out (.cells #[] 0))) k hk)) (own_base B4.row g3 rfl) _)
          case rest =>
            obtain ⟨vn5, L5, E5, hBW5⟩ := hcut
            obtain ⟨hB, hS, hs, hlay, hM, hBW, hC3, hrise, hb⟩ := HH.out
            have hS2 := hS.grown HN.out.1 hs hb
            have HF := Aside0.mk (And.intro E5 (And.intro hBW5 hS2))
            clear E5 hBW5 hS2 hB hS hlay hM hBW hC3 hrise hb
            go_wp2
            obtain ⟨hB, hS, -, hlay, hM, -, -, -, -⟩ := HH.out
            refine ⟨⟨j + 1, x1.length, _, grownT x1 a y cc, _, ts1 ++ [s1 ++ [cc]], s1 ++ [cc], rfl, by go_num, by omega, HF.out.1, HF.out.2.2, ?_, hlay, by rw [grown_length]; omega, ?_, HF.out.2.1⟩, by simp only [intOf]; omega⟩
            · rw [List.getElem?_append_right (by rw [hS.len]; exact Nat.le_refl _), hS.len, Nat.sub_self]; rfl
            · intro z hz
              obtain ⟨jz, hz⟩ := List.getElem?_of_mem hz
              rcases grown_at hax hz with ⟨rfl, rfl⟩ | ⟨rfl, rfl⟩ | ⟨_, hz⟩
              · exact hM y (List.mem_of_getElem? HN.out.1)
              · simp
              · exact hM z (List.mem_of_getElem? hz)
    · have hd0 : pl.drop j = [] := List.drop_of_length_le (by omega)
      rw [hd0, lay] at hlay
      have hx1 : x1[a]? = some x1[a] := List.getElem?_eq_getElem hax
      have hjl : j = pl.length := by omega
      obtain ⟨A4, c4, e4⟩ := Kd.R_slice (show Kd.R (Kd.int .i64) 3 wr w0.heap.size (fun _ => True) L1[a].2 x1[a].f4 from Kd.R_of_own hnd.d (fun _ _ => trivial))
      have hM4 := hM _ (List.mem_of_getElem? hx1)
      obtain ⟨y, hy⟩ : ∃ y, x1[a] = y := ⟨_, rfl⟩
      rw [hy] at hx1 hnd e4 hM4
      rw [e4] at d4
      obtain ⟨i0, hi0, hz0, hs0, hb0⟩ := info_parts info3
      have HB4 := Aside0.mk (show ∀ o : Obj, Bld ((wr.alloc o).drew) w0.heap.size g _ x1 L1 from fun o => hB.below (((Grows.refl wr).alloc o).drewN 1).below)
      have HE := Aside0.mk (show ∀ o : Obj, ((wr.alloc o).drew).ownsRow w0.heap.size 3 1 (.slice A4 y.f4.length c4) y.f4.length (encs (Value.int .i64) y.f4) from fun o => by
        have := hnd.d
        rw [e4] at this
        exact pw_own_below this (((Grows.refl wr).alloc o).drewN 1).below)
      have k0 : ((wr.alloc (.cells #[.int .i64 n] 3)).drew).cell? ⟨g, 0, none⟩ = some (.slice (some ⟨gn, 0, none⟩) x1.length cap) := by rw [blk_cell (HB4.out _).blk]; rfl
      have k4 : ((wr.alloc (.cells #[.int .i64 n] 3)).drew).cell? ⟨gn, a * 5 + 4, none⟩ = some (.slice A4 y.f4.length c4) := cell_grows (((Grows.refl wr).alloc _).drewN 1) d4
      have hbs : w0.heap.size ≤ wr.heap.size := hBW.size
      have HI0 := Aside0.mk (And.intro hi0 (And.intro hz0 (And.intro hs0 (And.intro hb0 hbs))))
      have HH := Aside0.mk (And.intro hB (And.intro hlay (And.intro hx1 (And.intro hBW (And.intro hy e4)))))
      clear hi0 hz0 hs0 hb0 hbs hB hlay hx1 hBW hS hs hM hd0 hnd HI HP
      go_wp2
      go_region_law (refine step_append_lies _ rfl (.tmp 103) (.tmp 105) 23 rfl w0.heap.size 3 i0 (.int .i64 0) 1 8 Try.underlying23 HI0.out.1 HI0.out.2.1 HI0.out.2.2.1 HI0.out.2.2.2.1 rfl (by decide) (.slice A4 y.f4.length c4) y.f4.length (encs (Value.int .i64) y.f4) (by simp [Act.eval, Act.put]) (HE.out _) ⟨wr.heap.size, 0, none⟩ 1 1 [.int .i64 n] (by simp [Act.eval, Act.put]) rfl (World.news_of_block (heap_alloc_new _ _)) (by simp [Value.oneCell']) (by decide) (by unfold maxLen; omega) (by omega) (by have := HI0.out.2.2.2.2; simp; omega) _ rfl ?_; intro g4 cap4 w4 ho4 hg4 hat4 hlt4; obtain ⟨m0, m4, mz⟩ := (HB4.out _).afterD a hax haL (w1 := w4) (by rw [HH.out.2.2.2.2.2]; exact hg4); have H4 := Aside0.mk (And.intro ho4 (And.intro hg4 hat4)); clear ho4 hg4 hat4)
      all_goals (
        go_wp2
        go_end0
        obtain ⟨hB, hlay, hx1, hBW, hy, e4⟩ := HH.out
        have E5 := (HB4.out (.cells #[.int .i64 n] 3)).ends a hax haL (.slice (some ⟨g4, 0, none⟩) (y.f4.length + 1) cap4) (y.f4 ++ [n]) (by rw [e4]; exact H4.out.2.1) (by rw [List.length_append, encs_snoc]; exact H4.out.1) (by
          rw [e4]
          rcases H4.out.2.2 with h | h
          · exact .inl h.symm
          · exact .inr ⟨g4, rfl, by rw [h]; exact Nat.le_refl _⟩)
        rw [hy] at E5
        have hadd : addT x n pl = x1.set a ⟨y.f0, y.f1, y.f2, y.f3, y.f4 ++ [n]⟩ := by
          unfold addT
          rw [hlay]
          simp only
          rw [hx1]
        rw [← hadd] at E5
        have q1 : Go.RowKit.Below w0.heap.size w0 ((wr.alloc (.cells #[.int .i64 n] 3)).drew) := hBW.trans ((((Grows.refl wr).alloc _).drewN 1).below.mono hBW.size)
        exact ⟨rfl, _, _, E5, Go.RowKit.Below.setCell (p := ⟨gn, a * 5 + 4, none⟩) (below_grown q1 q1.size H4.out.2.1 (fun k hk => own_base (HE.out (.cells #[] 0)) k hk)) (own_base hB.row gn rfl) _⟩)
end Go.Proofs.Ytgfmplhpoblleaa.FailW
end
