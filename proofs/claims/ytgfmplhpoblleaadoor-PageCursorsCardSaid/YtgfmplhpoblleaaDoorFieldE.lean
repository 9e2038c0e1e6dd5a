/- field: Sequence. -/
import Derived.Test.YtgfmplhpoblleaaDoorFieldD
import Derived.Test.YtgfmplhpoblleaaDoorRegM
import Derived.Test.YtgfmplhpoblleaaDoorPRefx0
namespace Go.Proofs.YtgfmplhpoblleaaDoor.FieldW
open Go.RowKit Go.Shelf Go.Lib Go.Proofs Go.Proofs.YtgfmplhpoblleaaDoorW.PrintWords Go.Proofs.YtgfmplhpoblleaaDoorW.PrintLast Go.Proofs.YtgfmplhpoblleaaDoorW.PrintMore Go.Proofs.YtgfmplhpoblleaaDoor.PRef
set_option linter.unusedVariables false
set_option linter.unusedSimpArgs false
attribute [local go_sem] Oper.semAt_some

set_option maxRecDepth 100000 in
theorem splitSeq_calls (s p : ByteArray) (w : World) : Calls Tryd.prog 35 #[.string s, .string p, .int .i64 0] w fun e w' =>
    e = .returned (.func (.func 46) #[] #[.pointer (some ⟨w.heap.size + 1, 0, none⟩), .pointer (some ⟨w.heap.size, 0, none⟩), .pointer (some ⟨w.heap.size + 2, 0, none⟩)]) ∧ w' = ((w.alloc (.cells #[.string s] 9)).alloc (.cells #[.string p] 9)).alloc (.cells #[.int .i64 0] 3) := by
  go_enter Tryd.func35, Tryd.ntmps35
  go_wp2
  go_ret
  exact ⟨rfl, rfl⟩
set_option maxRecDepth 100000 in
theorem split_calls (s : ByteArray) (w : World) (n0 : Nat) (hsz : s.size ≤ 1000000) : Calls Tryd.prog 22 #[.string s, .string ⟨#[32]⟩] w fun e w' => ∃ Bp Bs Bv,
    e = .returned (.func (.func 46) #[] #[.pointer (some ⟨Bp, 0, none⟩), .pointer (some ⟨Bs, 0, none⟩), .pointer (some ⟨Bv, 0, none⟩)]) ∧ w.heap.size ≤ Bs ∧ w.heap.size ≤ Bp ∧ w.heap.size ≤ Bv ∧ Bs < w'.heap.size ∧ Bp < w'.heap.size ∧ Bv < w'.heap.size ∧ Go.RowKit.Below w.heap.size w w' ∧
      SeqOwn 3 Tryd.prog 46 #[.pointer (some ⟨Bp, 0, none⟩), .pointer (some ⟨Bs, 0, none⟩), .pointer (some ⟨Bv, 0, none⟩)] encT n0 (fun b => b = Bp ∨ b = Bv) (fun b => b = Bs) (cutB s) w' := by
  have H := Aside0.mk (splitSeq_calls s ⟨#[32]⟩ w)
  go_enter Tryd.func22, Tryd.ntmps22
  go_wp2_with (go_at_call 35; refine H.out.mono ?_; rintro e w2 ⟨rfl, hw⟩; have HW := Aside0.mk hw; clear hw)
  go_ret
  have hw := HW.out
  have h0 : w2.heap[w.heap.size]? = some (.cells #[.string s] 9 (0, 0)) := by rw [hw]; exact (Go.RowKit.Below.heap_alloc _ _ _ (by simp; omega)).trans ((Go.RowKit.Below.heap_alloc _ _ _ (by simp)).trans (heap_alloc_new _ _))
  have h1 : w2.heap[w.heap.size + 1]? = some (.cells #[.string ⟨#[32]⟩] 9 (0, 0)) := by
    have := heap_alloc_new (w.alloc (.cells #[.string s] 9)) (.cells #[.string ⟨#[32]⟩] 9)
    rw [World.size_alloc] at this
    rw [hw]; exact (Go.RowKit.Below.heap_alloc _ _ _ (by simp)).trans this
  have h2 : w2.heap[w.heap.size + 2]? = some (.cells #[.int .i64 0] 3 (0, 0)) := by
    have := heap_alloc_new ((w.alloc (.cells #[.string s] 9)).alloc (.cells #[.string ⟨#[32]⟩] 9)) (.cells #[.int .i64 0] 3)
    rw [World.size_alloc, World.size_alloc] at this
    rw [hw]; exact this
  refine ⟨_, _, _, rfl, by omega, by omega, by omega, blk_lt h0, blk_lt h1, blk_lt h2, by rw [hw]; exact below_alloc (below_alloc (below_alloc (Go.RowKit.Below.refl _ _) _) _) _, split_own h0 h1 h2 ⟨by omega, by omega⟩ hsz⟩
/-- The code points of pieces. -/
def seqL : List (List UInt8) → Option (List Int)
  | [] => some []
  | p :: r => (pointS p).bind fun c => (seqL r).map fun l => (c : Int) :: l
theorem seqL_snoc (x : List UInt8) : ∀ (pre : List (List UInt8)) (acc : List Int), seqL pre = some acc → ∀ c, pointS x = some c → seqL (pre ++ [x]) = some (acc ++ [(c : Int)])
  | [], acc, h, c, hc => by
    simp [seqL] at h; subst h
    simp [seqL, hc]
  | p :: r, acc, h, c, hc => by
    rw [seqL] at h
    obtain ⟨d, hd, h2⟩ := Option.bind_eq_some_iff.1 h
    obtain ⟨l, hl, rfl⟩ := Option.map_eq_some_iff.1 h2
    rw [List.cons_append, seqL, hd, seqL_snoc x r l hl c hc]
    rfl
theorem seqL_none (x : List UInt8) (q : List (List UInt8)) (hx : pointS x = none) : ∀ (pre : List (List UInt8)), seqL (pre ++ x :: q) = none
  | [] => by simp [seqL, hx]
  | p :: r => by
    rw [List.cons_append, seqL, seqL_none x q hx r]
    cases pointS p <;> rfl
/-- The code points of a text, or the error. -/
def seqS (s : List UInt8) : List Int × Int := if s = [] then ([], 0) else match seqL (cutL s) with
  | none => ([], 13)
  | some l => (l, 0)
theorem results_two {fn : Func} (h : fn.results = #[.cell 2 22, .cell 3 25]) (tmps : Array Value) (w : World) (a b : Addr) (v : Value) (n : Int)
    (ha : tmps.getD 2 undef = .pointer (some a)) (hb : tmps.getD 3 undef = .pointer (some b)) (hv : w.cell? a = some v) (hn : w.cell? b = some (.int .i64 n)) :
    (results fn tmps).run Tryd.prog w = .ok (.tuple #[v, .int .i64 n]) w := by
  have ha' : tmps[2]?.getD undef = .pointer (some a) := by simpa using ha
  have hb' : tmps[3]?.getD undef = .pointer (some b) := by simpa using hb
  have hu := Tryd.underlying22
  have hu2 := Tryd.underlying25
  simp [results, h, ha', hb', asAddr]
  go_simp
theorem R_turn3 {w w' : World} {base : Nat} {ok : Nat → Prop} {v : Value} {xs : List Int} (h : Kd.R (Kd.int .i64) 3 w base ok v xs) (hk : ∀ b, v.ownBlock = some b → w'.heap[b]? = w.heap[b]?) : Kd.R (Kd.int .i64) 3 w' base ok v xs := by
  obtain ⟨h0, inner, hown, hr⟩ := h
  refine ⟨h0, inner, ?_, hr⟩
  refine ⟨hown.1, ?_⟩
  rcases hown.2 with h2 | ⟨g, cap, cur, rfl, hg, hh, r⟩
  · exact .inl h2
  · exact .inr ⟨g, cap, cur, rfl, hg, (hk g (by simp [Value.ownBlock])).trans hh, r⟩
theorem R_lt3 {w : World} {base : Nat} {ok : Nat → Prop} {v : Value} {xs : List Int} (h : Kd.R (Kd.int .i64) 3 w base ok v xs) : ∀ b, v.ownBlock = some b → b < w.heap.size ∧ base ≤ b ∧ ∃ cs, w.heap[b]? = some (.cells cs 3 (0, 0)) := by
  obtain ⟨_, inner, hown, _⟩ := h
  intro b hb
  rcases hown.2 with ⟨rfl, _⟩ | ⟨g, cap, cur, rfl, hg, hh, r⟩
  · simp [Value.ownBlock] at hb
  · simp only [Value.ownBlock, Option.some.injEq] at hb
    subst hb
    exact ⟨blk_lt hh, hg, _, hh⟩
theorem lt_of_cell {w : World} {b i : Nat} {v : Value} (h : w.cell? ⟨b, i, none⟩ = some v) : b < w.heap.size := by
  by_cases hb : b < w.heap.size
  · exact hb
  · exfalso
    have h0 : w.heap[b]? = none := Array.getElem?_eq_none (Nat.le_of_not_lt hb)
    simp [World.cell?, h0] at h
theorem cutL_len : ∀ l : List UInt8, (cutL l).length ≤ l.length + 1
  | [] => by simp [cutL]
  | b :: r => by
    have h := cutL_len r
    rw [cutL]
    split
    · simp; omega
    · simp; have := cutL_ne r; omega
theorem cutB_len (s : ByteArray) : (cutB s).length ≤ s.size + 1 := by
  have h := cutL_len s.data.toList
  simp [cutB]
  simpa using h
theorem cutB_map (s : ByteArray) : (cutB s).map (·.data.toList) = cutL s.data.toList := by
  simp [cutB, Function.comp_def]
theorem grownBy_set (w : World) (p : Addr) (u : Value) : w.grownBy (w.setCell p u) (some p.block) := ⟨rfl, rfl, rfl, by simp [World.setCell], fun k hk hne => Go.RowKit.Below.heap_setCell w _ u k (fun e => hne (by rw [e]))⟩
/-- What Sequence keeps between two pieces. -/
def sqI (w : World) (n1 : Nat) (K Z : Nat → Prop) (pre : List ByteArray) (W : World) : Prop :=
  ∃ v acc, seqL (pre.map (·.data.toList)) = some acc ∧ W.heap[w.heap.size + 1 + 1]? = some (.cells #[v] 22 (0, 0)) ∧ W.heap[w.heap.size]? = some (.cells #[.slice none 0 0] 22 (0, 0)) ∧ W.heap[w.heap.size + 1]? = some (.cells #[.int .i64 0] 25 (0, 0)) ∧ Kd.R (Kd.int .i64) 3 W w.heap.size (fun _ => True) v acc ∧ Go.RowKit.Below w.heap.size w W ∧ acc.length ≤ pre.length ∧ ∀ b, Z b ∨ K b → n1 ≤ b ∧ v.ownBlock ≠ some b ∧ b < W.heap.size
theorem sqI_turn {w : World} {n1 : Nat} {K Z Z' : Nat → Prop} {s : List ByteArray} {A B : World} {row : Option Nat} (h : sqI w n1 K Z s A) (hn : w.heap.size + 3 = n1) (hg : A.grownBy B row) (hr : ∀ r, row = some r → Z r) (hz : ∀ b, Z' b → Z b ∨ (A.heap.size ≤ b ∧ b < B.heap.size)) : sqI w n1 K Z' s B := by
  obtain ⟨v, acc, h1, h2, h3, h4, h5, h6, h7, h8⟩ := h
  have nz : ∀ b, ¬ Z b → b < A.heap.size → B.heap[b]? = A.heap[b]? := fun b hb hlt => hg.block b hlt (fun e => hb (hr b e.symm))
  have l2 := blk_lt h2
  refine ⟨v, acc, h1, (nz _ (fun h => by have := (h8 _ (.inl h)).1; omega) (blk_lt h2)).trans h2, (nz _ (fun h => by have := (h8 _ (.inl h)).1; omega) (blk_lt h3)).trans h3, (nz _ (fun h => by have := (h8 _ (.inl h)).1; omega) (blk_lt h4)).trans h4, R_turn3 h5 (fun b hb => nz b (fun h => (h8 b (.inl h)).2.1 hb) (R_lt3 h5 b hb).1), ⟨hg.os.trans h6.os, hg.tape.trans h6.tape, hg.output.trans h6.output, Nat.le_trans h6.size hg.size, fun k hk => (nz k (fun h => by have := (h8 _ (.inl h)).1; omega) (Nat.lt_of_lt_of_le hk h6.size)).trans (h6.block k hk)⟩, h7, fun b hb => ?_⟩
  have old : Z b ∨ K b → n1 ≤ b ∧ v.ownBlock ≠ some b ∧ b < B.heap.size := fun h => ⟨(h8 b h).1, (h8 b h).2.1, Nat.lt_of_lt_of_le (h8 b h).2.2 hg.size⟩
  rcases hb with hb | hb
  · rcases hz b hb with h | h
    · exact old (.inl h)
    · exact ⟨by omega, fun e => by have := (R_lt3 h5 b e).1; omega, h.2⟩
  · exact old (.inr hb)
set_option maxHeartbeats 4000000 in
set_option maxRecDepth 100000 in
theorem sequence_calls (s : ByteArray) (w : World) (hsz : s.size ≤ 1000000) (hz : w.cell? ⟨6, 15, none⟩ = some (.int .u8 4)) :
    Calls Tryd.prog 13 #[.string s] w fun e w' => ∃ v, e = .returned (.tuple #[v, .int .i64 (seqS s.data.toList).2]) ∧ Kd.R (Kd.int .i64) 3 w' w.heap.size (fun _ => True) v (seqS s.data.toList).1 ∧ Go.RowKit.Below w.heap.size w w' := by
  refine (callsIn_wide (n := 4)).1 ?_
  refine callsIn_of_wp_marks Tryd.func13 rfl trivial ?_ rfl
  simp only [Tryd.ntmps13, List.size_toArray, List.length_cons, List.length_nil, Nat.reduceAdd, Nat.reduceSub, Array.replicate_succ, Array.replicate_zero, List.push_toArray, List.append_toArray, List.nil_append, List.cons_append]
  refine wpIn_wide.2 ?_
  by_cases hemp : s.toList = []
  · have hb0 : (s.toList == []) = true := by rw [hemp]; rfl
    have HE := Aside0.mk hemp
    clear hemp
    go_wp2
    have hd : s.data.toList = [] := by rw [← ByteArray.toList_eq]; exact HE.out
    have hs : seqS s.data.toList = ([], 0) := by unfold seqS; rw [if_pos hd]
    rw [hs]
    refine ⟨_, results_two rfl _ _ ⟨w.heap.size, 0, none⟩ ⟨w.heap.size + 1, 0, none⟩ (.slice none 0 0) 0 rfl rfl ?_ ?_, _, rfl, Kd.R_nil _ _ _ _ _, below_alloc (below_alloc (Go.RowKit.Below.refl _ _) _) _⟩
    · exact (blk_cell ((Go.RowKit.Below.heap_alloc _ _ _ (by simp)).trans (heap_alloc_new _ _)) 0).trans rfl
    · have := heap_alloc_new (w.alloc (.cells #[.slice none 0 0] 22)) (.cells #[.int .i64 0] 25)
      rw [World.size_alloc] at this
      exact (blk_cell this 0).trans rfl
  · have hb0 : (s.toList == []) = false := by rw [beq_eq_false_iff_ne]; exact hemp
    have HE := Aside0.mk hemp
    have HZ := Aside0.mk hz
    clear hemp hz
    go_wp2_with (go_at_call 22; refine Aside0.out ?_)
    refine Aside0.mk ?_
    obtain ⟨W0, hW0⟩ : ∃ W0, W0 = ((w.alloc (.cells #[.slice none 0 0] 22)).alloc (.cells #[.int .i64 0] 25)).alloc (.cells #[.slice none 0 0] 22) := ⟨_, rfl⟩
    rw [← hW0]
    have hw0 : W0.heap.size = w.heap.size + 3 := by rw [hW0]; simp
    have hb0w : Go.RowKit.Below w.heap.size w W0 := by rw [hW0]; exact below_alloc (below_alloc (below_alloc (Go.RowKit.Below.refl _ _) _) _) _
    have q2 : W0.heap[w.heap.size]? = some (.cells #[.slice none 0 0] 22 (0, 0)) := by rw [hW0]; exact (Go.RowKit.Below.heap_alloc _ _ _ (by simp; omega)).trans ((Go.RowKit.Below.heap_alloc _ _ _ (by simp)).trans (heap_alloc_new _ _))
    have q3 : W0.heap[w.heap.size + 1]? = some (.cells #[.int .i64 0] 25 (0, 0)) := by
      have := heap_alloc_new (w.alloc (.cells #[.slice none 0 0] 22)) (.cells #[.int .i64 0] 25)
      rw [World.size_alloc] at this
      rw [hW0]; exact (Go.RowKit.Below.heap_alloc _ _ _ (by simp)).trans this
    have q4 : W0.heap[w.heap.size + 1 + 1]? = some (.cells #[.slice none 0 0] 22 (0, 0)) := by
      have := heap_alloc_new ((w.alloc (.cells #[.slice none 0 0] 22)).alloc (.cells #[.int .i64 0] 25)) (.cells #[.slice none 0 0] 22)
      rw [World.size_alloc, World.size_alloc] at this
      rw [hW0]; exact this
    refine (split_calls s W0 w.heap.size hsz).mono ?_
    rintro e Wr ⟨Bp, Bs, Bv, rfl, g1, g2, g3, g4, g5, g6, hbr, hseq⟩
    have r2 := (hbr.block _ (by omega)).trans q2
    have r3 := (hbr.block _ (by omega)).trans q3
    have r4 := (hbr.block _ (by omega)).trans q4
    have hbw : Go.RowKit.Below w.heap.size w Wr := hb0w.trans (hbr.mono hb0w.size)
    have HR := Aside0.mk (And.intro r2 (And.intro r3 (And.intro r4 (And.intro hbw hbr.size))))
    have HS := Aside0.mk (And.intro hseq (And.intro g1 (And.intro g2 (And.intro g3 (And.intro g4 (And.intro g5 (And.intro g6 hw0)))))))
    have hdn : ¬ s.data.toList = [] := by rw [← ByteArray.toList_eq]; exact HE.out
    have HDN := Aside0.mk hdn
    clear r2 r3 r4 hbw hbr hseq g1 g2 g3 g4 g5 g6 hw0 hb0w q2 q3 q4 hW0 hdn
    go_wp2
    refine (wpIn_wide (n := 4)).1 ?_
    refine range_own (n := 4) (by omega) (gf := 46) (lb := #[.pointer (some ⟨Bp, 0, none⟩), .pointer (some ⟨Bs, 0, none⟩), .pointer (some ⟨Bv, 0, none⟩)]) rfl (enters_of Tryd.func46 (by kernel_rfl) rfl) HS.out.1 (Go.RowKit.Below.refl _ _) HR.out.2.2.2.1.size (fun b hb => by rw [hb]; exact HS.out.2.2.2.2.1) (fun b hb => by rcases hb with rfl | rfl; exact HS.out.2.2.2.2.2.1; exact HS.out.2.2.2.2.2.2.1) (fun _ => rfl)
      (sqI w W0.heap.size (fun b => b = Bp ∨ b = Bv))
      (fun Z q W => q.2.2 = { tmps := #[.string s, undef, .pointer (some ⟨w.heap.size, 0, none⟩), .pointer (some ⟨w.heap.size + 1, 0, none⟩), .pointer (some ⟨w.heap.size + 1 + 1, 0, none⟩), .string q.2.1, undef, undef, .string s, .bool false, .string s, .func (.func 46) #[] #[.pointer (some ⟨Bp, 0, none⟩), .pointer (some ⟨Bs, 0, none⟩), .pointer (some ⟨Bv, 0, none⟩)], .string q.2.1, undef, undef, undef, undef, undef, undef, undef, undef, undef, undef, undef, undef, undef], defers := [] } ∧ sqI w W0.heap.size (fun b => b = Bp ∨ b = Bv) Z q.1 W)
      (fun c q W => c = Code.ret ∧ seqL (cutL s.data.toList) = none ∧ W.heap[w.heap.size]? = some (.cells #[.slice none 0 0] 22 (0, 0)) ∧ W.heap[w.heap.size + 1]? = some (.cells #[.int .i64 13] 25 (0, 0)) ∧ Go.RowKit.Below w.heap.size w W)
      (fun Z Z' q A B row h hg hr hz => sqI_turn h HS.out.2.2.2.2.2.2.2.symm hg hr hz) ?ax ?ix ?h0 ?assign ?body ?done ?stop
    case ax =>
      rintro Z Z' ⟨pre, x, a'⟩ A B row ⟨e, h⟩ hg hr hz
      exact ⟨e, sqI_turn h HS.out.2.2.2.2.2.2.2.symm hg hr hz⟩
    case ix =>
      rintro cc q W lp r o hlp hl ⟨h1, h2, h3, h4, h5⟩
      have hh := HR.out.2.2.2.2
      have hh2 := HS.out.2.2.2.2.2.2.2
      exact ⟨h1, h2, (World.putObj_heap_other (by omega)).trans h3, (World.putObj_heap_other (by omega)).trans h4, h5.trans (below_put _ _ _ _ (by omega))⟩
    case h0 => exact ⟨_, [], rfl, HR.out.2.2.1, HR.out.1, HR.out.2.1, Kd.R_nil _ _ _ _ _, HR.out.2.2.2.1, Nat.le_refl _, fun b hb => by
      have hq : ∀ b', W0.heap.size ≤ b' → b' < Wr.heap.size → W0.heap.size ≤ b' ∧ (Value.slice none 0 0).ownBlock ≠ some b' ∧ b' < Wr.heap.size := fun b' h1 h2 => ⟨h1, by simp [Value.ownBlock], h2⟩
      rcases hb with hb | hb | hb
      · rw [hb]; exact hq _ HS.out.2.1 HS.out.2.2.2.2.1
      · rw [hb]; exact hq _ HS.out.2.2.1 HS.out.2.2.2.2.2.1
      · rw [hb]; exact hq _ HS.out.2.2.2.1 HS.out.2.2.2.2.2.2.1⟩
    case assign =>
      rintro lp Z pre x r W Kc hI hx2 hK2
      have HI := Aside0.mk hI
      clear hI hx2
      unfold encT
      gi_wp2
      exact hK2 _ _ (fun b hb => rfl) (Go.RowKit.Below.refl _ _) ⟨rfl, HI.out⟩
    case body =>
      rintro lp Z pre x r a' W ⟨ha, hI⟩ hx2
      dsimp only at ha hI
      subst ha
      obtain ⟨v, acc, h1, h2, h3, h4, h5, h6, h7, h8⟩ := hI
      obtain ⟨A0, c0, rfl⟩ := Kd.R_slice h5
      have hz6 : 6 < w.heap.size := lt_of_cell HZ.out
      have hzW : W.cell? ⟨6, 15, none⟩ = some (.int .u8 4) := (h6.cell (p := ⟨6, 15, none⟩) hz6).trans HZ.out
      have hlen : acc.length + 1 ≤ 1000001 := by
        have := congrArg List.length hx2
        have h9 := cutB_len s
        simp at this
        omega
      have HX := Aside0.mk hx2
      cases hp : pointS x.data.toList with
      | none =>
        have HP := Aside0.mk hp
        have H := Aside0.mk (point_calls x W hzW (0, 13) (by rw [hp]))
        have HI := Aside0.mk (And.intro h1 (And.intro h2 (And.intro h3 (And.intro h4 (And.intro h5 (And.intro h6 (And.intro h7 h8)))))))
        clear h1 h2 h3 h4 h5 h6 h7 h8 hp hzW hx2
        gi_wp2_with (refine ⟨trivial, ?_⟩; gi_at_call 23; refine (CallsIn.inRound lp (callsIn_wide.2 H.out)).mono ?_; rintro e w2 ⟨rfl, hb2⟩; have HB2 := Aside0.mk hb2; have y4 : w2.cell? ⟨w.heap.size + 1 + 1, 0, none⟩ = some (.slice A0 acc.length c0) := (blk_cell ((hb2.block _ (blk_lt HI.out.2.1)).trans HI.out.2.1) 0).trans rfl; have y2 : w2.cell? ⟨w.heap.size, 0, none⟩ = some (.slice none 0 0) := (blk_cell ((hb2.block _ (blk_lt HI.out.2.2.1)).trans HI.out.2.2.1) 0).trans rfl; have y3 : w2.cell? ⟨w.heap.size + 1, 0, none⟩ = some (.int .i64 0) := (blk_cell ((hb2.block _ (blk_lt HI.out.2.2.2.1)).trans HI.out.2.2.2.1) 0).trans rfl; have z2 := blk_frozen ((hb2.block _ (blk_lt HI.out.2.2.1)).trans HI.out.2.2.1) 0; have z3 := blk_frozen ((hb2.block _ (blk_lt HI.out.2.2.2.1)).trans HI.out.2.2.2.1) 0; have z4 := blk_frozen ((hb2.block _ (blk_lt HI.out.2.1)).trans HI.out.2.1) 0; clear hb2)
        have hb2 := HB2.out
        have k0 := (hb2.block _ (blk_lt HI.out.2.2.1)).trans HI.out.2.2.1
        have k1 := (hb2.block _ (blk_lt HI.out.2.2.2.1)).trans HI.out.2.2.2.1
        have hsz0 := HS.out.2.2.2.2.2.2.2
        obtain ⟨W3, hW3⟩ : ∃ W3, W3 = w2.setCell ⟨w.heap.size, 0, none⟩ (.slice none 0 0) := ⟨_, rfl⟩
        rw [← hW3]
        obtain ⟨W4, hW4⟩ : ∃ W4, W4 = W3.setCell ⟨w.heap.size + 1, 0, none⟩ (.int .i64 13) := ⟨_, rfl⟩
        rw [← hW4]
        have g3 : w2.grownBy W3 (some w.heap.size) := by rw [hW3]; exact grownBy_set w2 ⟨w.heap.size, 0, none⟩ _
        have g4 : W3.grownBy W4 (some (w.heap.size + 1)) := by rw [hW4]; exact grownBy_set W3 ⟨w.heap.size + 1, 0, none⟩ _
        have keep : ∀ b, b < W.heap.size → b ≠ w.heap.size → b ≠ w.heap.size + 1 → W4.heap[b]? = W.heap[b]? := fun b h1 h2 h3 =>
          (g4.block b (Nat.lt_of_lt_of_le h1 (Nat.le_trans hb2.size g3.size)) (fun e => h3 (by injection e))).trans ((g3.block b (Nat.lt_of_lt_of_le h1 hb2.size) (fun e => h2 (by injection e))).trans (hb2.block b h1))
        have hWs := HI.out.2.2.2.2.2.1.size
        have hRs := HR.out.2.2.2.2
        have m0 : W3.heap[w.heap.size]? = some (.cells #[.slice none 0 0] 22 (0, 0)) := by have h_ := blk_set k0 0 (.slice none 0 0); rw [← hW3] at h_; exact h_
        have m1 : W3.heap[w.heap.size + 1]? = some (.cells #[.int .i64 0] 25 (0, 0)) := (g3.block _ (blk_lt k1) (fun e => by injection e with e; omega)).trans k1
        have m0' : W4.heap[w.heap.size]? = some (.cells #[.slice none 0 0] 22 (0, 0)) := (g4.block _ (blk_lt m0) (fun e => by injection e with e; omega)).trans m0
        have m1' : W4.heap[w.heap.size + 1]? = some (.cells #[.int .i64 13] 25 (0, 0)) := by have h_ := blk_set m1 0 (.int .i64 13); rw [← hW4] at h_; exact h_
        refine ⟨fun b hb => ?_, rfl, ?_, m0', m1', ?_⟩
        · exact keep b (HI.out.2.2.2.2.2.2.2 b hb).2.2 (by have := (HI.out.2.2.2.2.2.2.2 b hb).1; omega) (by have := (HI.out.2.2.2.2.2.2.2 b hb).1; omega)
        · have hh := cutB_map s
          rw [HX.out] at hh
          rw [← hh, List.map_append, List.map_cons]
          exact seqL_none _ _ HP.out _
        · exact ⟨g4.os.trans (g3.os.trans (hb2.os.trans HI.out.2.2.2.2.2.1.os)), g4.tape.trans (g3.tape.trans (hb2.tape.trans HI.out.2.2.2.2.2.1.tape)), g4.output.trans (g3.output.trans (hb2.output.trans HI.out.2.2.2.2.2.1.output)), Nat.le_trans hWs (Nat.le_trans hb2.size (Nat.le_trans g3.size g4.size)), fun b hb => (keep b (by omega) (by omega) (by omega)).trans (HI.out.2.2.2.2.2.1.block b hb)⟩
      | some c =>
        have HP := Aside0.mk hp
        have H := Aside0.mk (point_calls x W hzW ((c : Int), 0) (by rw [hp]))
        have HI := Aside0.mk (And.intro h1 (And.intro h2 (And.intro h3 (And.intro h4 (And.intro h5 (And.intro h6 (And.intro h7 h8)))))))
        clear h1 h2 h3 h4 h5 h6 h7 h8 hp hzW hx2
        gi_wp2_with (first | (refine ⟨trivial, ?_⟩; gi_at_call 23; refine (CallsIn.inRound lp (callsIn_wide.2 H.out)).mono ?_; rintro e w2 ⟨rfl, hb2⟩; have HB2 := Aside0.mk hb2; have y4 : w2.cell? ⟨w.heap.size + 1 + 1, 0, none⟩ = some (.slice A0 acc.length c0) := (blk_cell ((hb2.block _ (blk_lt HI.out.2.1)).trans HI.out.2.1) 0).trans rfl; have y2 : w2.cell? ⟨w.heap.size, 0, none⟩ = some (.slice none 0 0) := (blk_cell ((hb2.block _ (blk_lt HI.out.2.2.1)).trans HI.out.2.2.1) 0).trans rfl; have y3 : w2.cell? ⟨w.heap.size + 1, 0, none⟩ = some (.int .i64 0) := (blk_cell ((hb2.block _ (blk_lt HI.out.2.2.2.1)).trans HI.out.2.2.2.1) 0).trans rfl; have z2 := blk_frozen ((hb2.block _ (blk_lt HI.out.2.2.1)).trans HI.out.2.2.1) 0; have z3 := blk_frozen ((hb2.block _ (blk_lt HI.out.2.2.2.1)).trans HI.out.2.2.2.1) 0; have z4 := blk_frozen ((hb2.block _ (blk_lt HI.out.2.1)).trans HI.out.2.1) 0; clear hb2) | (gi_at_builtin; refine Aside0.out ?_))
        refine Aside0.mk ?_
        have hb2 := HB2.out
        have hWs := HI.out.2.2.2.2.2.1.size
        have hRw := R_turn3 HI.out.2.2.2.2.1 (fun b hb => hb2.block b (R_lt3 HI.out.2.2.2.2.1 b hb).1)
        have HRw := Aside0.mk hRw
        have k4 := (hb2.block _ (blk_lt HI.out.2.1)).trans HI.out.2.1
        have HK4 := Aside0.mk k4
        have far : (Value.slice A0 acc.length c0).ownBlock ≠ some (w.heap.size + 1 + 1) := fun e => by
          obtain ⟨cs, hh⟩ := (R_lt3 HRw.out _ e).2.2
          rw [HK4.out] at hh
          injection hh with hh
          injection hh with _ hh
          cases hh
        have FAR := Aside0.mk far
        clear hRw k4 far
        refine R_appendIn (Kd.int .i64) (w0 := w) w.heap.size rfl (by rintro ⟨a_, w_, h_⟩; exact h_) (.tmp 21) (.tmp 23) 22 3 (.int .i64 0) 8 rfl Tryd.underlying22 info3 rfl (by decide) (by omega) (.slice A0 acc.length c0) acc (c : Int) [.int .i64 (c : Int)] (fun _ => True) (fun _ => False) rfl rfl rfl (fun _ hk => hk.elim) (fun _ _ => trivial) HRw.out (HI.out.2.2.2.2.2.1.trans (HB2.out.mono hWs)) (Nat.le_trans hWs hb2.size) (by omega) ?_
        intro v3 w3 ho3 hb3 hg3 hat3
        obtain ⟨A3, c3, rfl⟩ := Kd.R_slice ho3
        have k3 := blk_grown HK4.out hg3 (fun e => FAR.out e.symm)
        have y4 : w3.cell? ⟨w.heap.size + 1 + 1, 0, none⟩ = some (.slice A0 acc.length c0) := (blk_cell k3 0).trans rfl
        have z4 := blk_frozen k3 0
        have HO := Aside0.mk (And.intro ho3 (And.intro hb3 (And.intro hg3 (And.intro hat3 k3))))
        clear ho3 hb3 hg3 hat3 k3
        gi_wp2
        have hb2 := HB2.out
        have hWs := HI.out.2.2.2.2.2.1.size
        have hsz0 := HS.out.2.2.2.2.2.2.2
        have hE : acc.length + 1 = (acc ++ [(c : Int)]).length := by simp
        rw [hE]
        obtain ⟨W3, hW3⟩ : ∃ W3, W3 = w3.setCell ⟨w.heap.size + 1 + 1, 0, none⟩ (.slice A3 (acc ++ [(c : Int)]).length c3) := ⟨_, rfl⟩
        rw [← hW3]
        have g23 : w3.grownBy W3 (some (w.heap.size + 1 + 1)) := by rw [hW3]; exact grownBy_set w3 ⟨w.heap.size + 1 + 1, 0, none⟩ _
        have hgs := HO.out.2.2.1.size
        have keep : ∀ b, b < W.heap.size → b ≠ w.heap.size + 1 + 1 → (Value.slice A0 acc.length c0).ownBlock ≠ some b → W3.heap[b]? = W.heap[b]? := fun b h1 h2 h3 => (g23.block b (Nat.lt_of_lt_of_le h1 (Nat.le_trans hb2.size hgs)) (fun e => h2 (by injection e))).trans ((HO.out.2.2.1.block b (Nat.lt_of_lt_of_le h1 hb2.size) (fun e => h3 e.symm)).trans (hb2.block b h1))
        have own3 := R_lt3 HO.out.1
        have nown : ∀ b cs ty, W.heap[b]? = some (.cells cs ty (0, 0)) → ty ≠ 3 → (Value.slice A0 acc.length c0).ownBlock ≠ some b := fun b cs ty h1 h2 e => by
          obtain ⟨cs', hh⟩ := (R_lt3 HI.out.2.2.2.2.1 _ e).2.2
          rw [h1] at hh
          injection hh with hh
          injection hh with _ hh
          exact h2 hh
        refine ⟨fun b hb => ?_, ⟨g23.os.trans (HO.out.2.2.1.os.trans hb2.os), g23.tape.trans (HO.out.2.2.1.tape.trans hb2.tape), g23.output.trans (HO.out.2.2.1.output.trans hb2.output), Nat.le_trans hb2.size (Nat.le_trans hgs g23.size), fun b hb => keep b (by omega) (by omega) (fun e => by have := (R_lt3 HI.out.2.2.2.2.1 b e).2.1; omega)⟩, .slice A3 (acc ++ [(c : Int)]).length c3, acc ++ [(c : Int)], ?_, ?_, ?_, ?_, R_turn3 HO.out.1 (fun b hb => g23.block b (own3 b hb).1 (fun e => ?_)), ?_, by simp; exact HI.out.2.2.2.2.2.2.1, fun b hb => ⟨(HI.out.2.2.2.2.2.2.2 b hb).1, fun e => ?_, ?_⟩⟩
        · exact keep b (HI.out.2.2.2.2.2.2.2 b hb).2.2 (by have := (HI.out.2.2.2.2.2.2.2 b hb).1; omega) (HI.out.2.2.2.2.2.2.2 b hb).2.1
        · rw [List.map_append]
          exact seqL_snoc _ _ _ HI.out.1 _ HP.out
        · have h_ := blk_set HO.out.2.2.2.2 0 (.slice A3 (acc ++ [(c : Int)]).length c3)
          rw [← hW3] at h_
          exact h_
        · exact (keep _ (blk_lt HI.out.2.2.1) (by omega) (nown _ _ _ HI.out.2.2.1 (by decide))).trans HI.out.2.2.1
        · exact (keep _ (blk_lt HI.out.2.2.2.1) (by omega) (nown _ _ _ HI.out.2.2.2.1 (by decide))).trans HI.out.2.2.2.1
        · injection e with e
          obtain ⟨cs', hh⟩ := (own3 b hb).2.2
          rw [e, HO.out.2.2.2.2] at hh
          injection hh with hh
          injection hh with _ hh
          cases hh
        · exact ⟨g23.os.trans HO.out.2.1.os, g23.tape.trans HO.out.2.1.tape, g23.output.trans HO.out.2.1.output, Nat.le_trans HO.out.2.1.size g23.size, fun b hb => (g23.block b (Nat.lt_of_lt_of_le hb HO.out.2.1.size) (fun e => by injection e with e; omega)).trans (HO.out.2.1.block b hb)⟩
        · rcases HO.out.2.2.2.1 with h | ⟨b', h, h2⟩
          · exact (HI.out.2.2.2.2.2.2.2 b hb).2.1 (by rw [← h]; exact e)
          · rw [e] at h
            injection h with h
            have h9 := (HI.out.2.2.2.2.2.2.2 b hb).2.2
            have h10 := hb2.size
            omega
        · exact Nat.lt_of_lt_of_le (HI.out.2.2.2.2.2.2.2 b hb).2.2 (Nat.le_trans hb2.size (Nat.le_trans hgs g23.size))
    case done =>
      rintro Z W hI hD
      obtain ⟨v, acc, h1, h2, h3, h4, h5, h6, h7, h8⟩ := hI
      obtain ⟨A0, c0, rfl⟩ := Kd.R_slice h5
      have y4 : W.cell? ⟨w.heap.size + 1 + 1, 0, none⟩ = some (.slice A0 acc.length c0) := (blk_cell h2 0).trans rfl
      have y2 : W.cell? ⟨w.heap.size, 0, none⟩ = some (.slice none 0 0) := (blk_cell h3 0).trans rfl
      have y3 : W.cell? ⟨w.heap.size + 1, 0, none⟩ = some (.int .i64 0) := (blk_cell h4 0).trans rfl
      have z2 := blk_frozen h3 0
      have z3 := blk_frozen h4 0
      have HI := Aside0.mk (And.intro h1 (And.intro h2 (And.intro h3 (And.intro h4 (And.intro h5 (And.intro h6 (And.intro h7 h8)))))))
      have HD := Aside0.mk hD
      clear h1 h2 h3 h4 h5 h6 h7 h8 hD
      gi_wp2
      go_wp2
      have hsz0 := HS.out.2.2.2.2.2.2.2
      have hrs := HR.out.2.2.2.2
      have hWs := HI.out.2.2.2.2.2.1.size
      obtain ⟨W3, hW3⟩ : ∃ W3, W3 = W.setCell ⟨w.heap.size, 0, none⟩ (.slice A0 acc.length c0) := ⟨_, rfl⟩
      rw [← hW3]
      obtain ⟨W4, hW4⟩ : ∃ W4, W4 = W3.setCell ⟨w.heap.size + 1, 0, none⟩ (.int .i64 0) := ⟨_, rfl⟩
      rw [← hW4]
      have g3 : W.grownBy W3 (some w.heap.size) := by rw [hW3]; exact grownBy_set W ⟨w.heap.size, 0, none⟩ _
      have g4 : W3.grownBy W4 (some (w.heap.size + 1)) := by rw [hW4]; exact grownBy_set W3 ⟨w.heap.size + 1, 0, none⟩ _
      have m0 : W3.heap[w.heap.size]? = some (.cells #[.slice A0 acc.length c0] 22 (0, 0)) := by have h_ := blk_set HI.out.2.2.1 0 (.slice A0 acc.length c0); rw [← hW3] at h_; exact h_
      have m1 : W3.heap[w.heap.size + 1]? = some (.cells #[.int .i64 0] 25 (0, 0)) := (g3.block _ (blk_lt HI.out.2.2.2.1) (fun e => by injection e with e; omega)).trans HI.out.2.2.2.1
      have m0' : W4.heap[w.heap.size]? = some (.cells #[.slice A0 acc.length c0] 22 (0, 0)) := (g4.block _ (blk_lt m0) (fun e => by injection e with e; omega)).trans m0
      have m1' : W4.heap[w.heap.size + 1]? = some (.cells #[.int .i64 0] 25 (0, 0)) := by have h_ := blk_set m1 0 (.int .i64 0); rw [← hW4] at h_; exact h_
      have keep : ∀ b, b < W.heap.size → b ≠ w.heap.size → b ≠ w.heap.size + 1 → W4.heap[b]? = W.heap[b]? := fun b h1 h2 h3 =>
        (g4.block b (Nat.lt_of_lt_of_le h1 g3.size) (fun e => h3 (by injection e))).trans (g3.block b h1 (fun e => h2 (by injection e)))
      have hD4 : W4.heap[Wr.heap.size]? = some (.deferred (some [])) := (keep _ (by
        by_cases hh : Wr.heap.size < W.heap.size
        · exact hh
        · exfalso
          have h_ := HD.out
          rw [Array.getElem?_eq_none (Nat.le_of_not_lt hh)] at h_
          cases h_) (by omega) (by omega)).trans HD.out
      have nown : ∀ b ob, W.heap[b]? = some ob → (∀ cs, ob ≠ .cells cs 3 (0, 0)) → (Value.slice A0 acc.length c0).ownBlock ≠ some b := fun b ob h1 h2 e => by
        obtain ⟨cs', hh⟩ := (R_lt3 HI.out.2.2.2.2.1 _ e).2.2
        rw [h1] at hh
        injection hh with hh
        exact h2 _ hh
      have hS : seqS s.data.toList = (acc, 0) := by
        unfold seqS
        rw [if_neg HDN.out, ← cutB_map, HI.out.1]
      rw [hS]
      refine ⟨by simp, .inl ⟨_, _, rfl, run_takeDeferred hD4, ?_⟩⟩
      refine ⟨_, results_two rfl _ _ ⟨w.heap.size, 0, none⟩ ⟨w.heap.size + 1, 0, none⟩ (.slice A0 acc.length c0) 0 rfl rfl ?_ ?_, _, rfl, ?_, ?_⟩
      · exact (blk_cell ((World.putObj_heap_other (by omega)).trans m0') 0).trans rfl
      · exact (blk_cell ((World.putObj_heap_other (by omega)).trans m1') 0).trans rfl
      · refine R_turn3 HI.out.2.2.2.2.1 (fun b hb => ?_)
        have n1 : b ≠ Wr.heap.size := fun e => nown _ _ HD.out (fun cs h => by cases h) (by rw [← e]; exact hb)
        have n2 : b ≠ w.heap.size := fun e => nown _ _ HI.out.2.2.1 (fun cs h => by cases h) (by rw [← e]; exact hb)
        have n3 : b ≠ w.heap.size + 1 := fun e => nown _ _ HI.out.2.2.2.1 (fun cs h => by cases h) (by rw [← e]; exact hb)
        exact (World.putObj_heap_other n1).trans (keep b (R_lt3 HI.out.2.2.2.2.1 b hb).1 n2 n3)
      · exact Go.RowKit.Below.trans ⟨g4.os.trans (g3.os.trans HI.out.2.2.2.2.2.1.os), g4.tape.trans (g3.tape.trans HI.out.2.2.2.2.2.1.tape), g4.output.trans (g3.output.trans HI.out.2.2.2.2.2.1.output), Nat.le_trans hWs (Nat.le_trans g3.size g4.size), fun b hb => (keep b (by omega) (by omega) (by omega)).trans (HI.out.2.2.2.2.2.1.block b hb)⟩ (below_put W4 Wr.heap.size w.heap.size _ (by omega))
    case stop =>
      rintro cc pre x r W hx2 ⟨rfl, h1, h2, h3, h4⟩ hD
      have hx3 := h1
      have hS : seqS s.data.toList = ([], 13) := by
        unfold seqS
        rw [if_neg HDN.out, h1]
      have hsz0 := HS.out.2.2.2.2.2.2.2
      have hrs := HR.out.2.2.2.2
      gi_wp2
      go_wp2
      rw [hS]
      refine ⟨by simp, .inl ⟨_, _, rfl, run_takeDeferred hD, ?_⟩⟩
      refine ⟨_, results_two rfl _ _ ⟨w.heap.size, 0, none⟩ ⟨w.heap.size + 1, 0, none⟩ (.slice none 0 0) 13 rfl rfl ?_ ?_, _, rfl, Kd.R_nil _ _ _ _ _, h4.trans (below_put W Wr.heap.size w.heap.size _ (by omega))⟩
      · exact (blk_cell ((World.putObj_heap_other (by omega)).trans h2) 0).trans rfl
      · exact (blk_cell ((World.putObj_heap_other (by omega)).trans h3) 0).trans rfl
end Go.Proofs.YtgfmplhpoblleaaDoor.FieldW
