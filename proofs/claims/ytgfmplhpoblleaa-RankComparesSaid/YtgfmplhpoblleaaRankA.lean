/- rank.clone, rank.Compare: what they compute, and what becomes of memory. -/
import Derived.Test.YtgfmplhpoblleaaPRankx
import Derived.Test.YtgfmplhpoblleaaShelf
import Derived.WalkSpells
import Derived.Test.YtgfmplhpoblleaaSortOwn
import Derived.Test.YtgfmplhpoblleaaCmps
namespace Go.Proofs.Ytgfmplhpoblleaa.RankW
open Go.RowKit Go.Proofs.YtgfmplhpoblleaaW.PrintWords Go.Proofs.YtgfmplhpoblleaaW.PrintLast Go.Proofs.YtgfmplhpoblleaaW.PrintMore Go.Proofs.Ytgfmplhpoblleaa.PRank Go.Proofs.Ytgfmplhpoblleaa.SortOwn Go.Proofs.Ytgfmplhpoblleaa.Cmps
set_option linter.unusedVariables false
set_option linter.unusedSimpArgs false


theorem i64_info : (Try.prog.info? 3).map (fun i => (i.zero, i.size, i.bytes)) = some (some (.int .i64 0), 1, 8) := info3

set_option maxHeartbeats 800000 in
set_option maxRecDepth 100000 in
/-- slices.Clone of ints: the same numbers in new memory; nil stays nil. -/
theorem clone_ints (A : Option Addr) (c : Nat) (l : List Int) (w : World) (hr : Kd.C (Kd.int .i64) w A l.length l) (hl : l.length * 8 ≤ 140737488355328) :
    Calls Try.prog 87 #[.slice A l.length c] w fun e w' => ∃ v, e = .returned v ∧ Kd.R (Kd.int .i64) 3 w' w.heap.size (fun _ => True) v l ∧ Below w.heap.size w w' := by
  have hq := fun w => Go.Lib.run_eql_slice_nil (P := Try.prog) w 23 3 A l.length c 0 0 Try.underlying23
  cases A with
  | none =>
    have h0 : l.length = 0 := by
      rcases Nat.eq_zero_or_pos l.length with h | h
      · exact h
      · obtain ⟨ad, h1, _⟩ := hr.2.2 h; cases h1
    have hnil : l = [] := List.length_eq_zero_iff.1 h0
    subst hnil
    simp only [Option.isNone_none, List.length_nil] at hq
    clear hr hl h0
    go_enter Try.func87, Try.ntmps87
    go_wp2
    go_ret
    exact ⟨_, rfl, Kd.R_nil _ _ _ _ _, Below.refl _ _⟩
  | some ad =>
    simp only [Option.isNone_some] at hq
    have HR := Aside0.mk hr
    clear hr
    go_enter Try.func87, Try.ntmps87
    go_wp2_with (first
      | ((with_reducible refine gate_dst (N := 5) rfl ?_); refine Kd.R_lit (Kd.int .i64) w.heap.size 3 ?hg (N := 5) ?hd (xs := ([] : List Int)) (inner := []) (ok := fun _ => True) (okp := fun _ => True) ?hr ?hp (fun _ hk => hk) trivial (Below.refl _ _) (Nat.le_refl _) (by simp) ?_; (case hd => rfl); (case hg => rfl); (case hr => first | (go_simp; done) | (go_simp; rfl)); (case hp => exact Reps.none _ _); intro v1 w1 ho1 hb1 hg1 hn1; have HO := Aside0.mk ho1; have HB := Aside0.mk hb1; clear ho1 hb1 hg1 hn1)
      | ((with_reducible refine gate_dst (N := 7) rfl ?_); refine Kd.R_append_row (Value.int .i64) (0 : Int) (h1 := fun _ => rfl) (w0 := w) w.heap.size rfl (.tmp 5) (.tmp 6) 23 3 (.int .i64 0) 8 rfl Try.underlying23 i64_info rfl (by decide) _ [] l (some ad) l.length c (fun _ => True) rfl rfl (fun _ _ => trivial) HO.out (Kd.C_below HR.out HB.out) HB.out (below_size HB.out) (by simpa using hl) ?_; intro v2 w2 ho2 hb2 hg2 hn2; have HO2 := Aside0.mk ho2; have HB2 := Aside0.mk hb2; clear ho2 hb2 hg2 hn2))
    go_ret
    exact ⟨_, rfl, HO2.out, HB2.out⟩


theorem cells_of_blk {w : World} {g t : Nat} {cs : Array Value} (h : w.heap[g]? = some (.cells cs t (0, 0))) : (∀ i, w.cell? ⟨g, i, none⟩ = cs[i]?) ∧ ∀ i, w.frozen? ⟨g, i, none⟩ = false := by
  constructor
  · intro i; simp [World.cell?, h]
  · intro i; simp [World.frozen?, h]

/-- A store below what a row was made from on leaves the row. -/
theorem R_low {α : Type} {d : Kd α} {e base : Nat} {w : World} {ok : Nat → Prop} {v : Value} {xs : List α} (h : d.R e w base ok v xs) {p : Addr} (hp : p.block < base) (u : Value) : d.R e (w.setCell p u) base ok v xs :=
  Kd.R_mono (Kd.R_far (Kd.R_bound h) (fun k hk => by have := hk.2.1; omega) u) (fun _ hk => hk.1)

set_option maxHeartbeats 800000 in
set_option maxRecDepth 100000 in
/-- rank.clone: the same find, its label in new memory. -/
theorem clone_calls (A : Option Addr) (c : Nat) (l : List Int) (b a : Int) (wh : Bool) (ex : Int) (w : World) (hr : Kd.C (Kd.int .i64) w A l.length l) (hl : l.length * 8 ≤ 140737488355328) :
    Calls Try.prog 71 #[.agg #[.slice A l.length c, .int .i64 b, .int .i64 a, .bool wh, .int .i64 ex]] w fun e w' => ∃ v, e = .returned (.agg #[v, .int .i64 b, .int .i64 a, .bool wh, .int .i64 ex]) ∧ Kd.R (Kd.int .i64) 3 w' w.heap.size (fun _ => True) v l ∧ Below w.heap.size w w' := by
  have HR := Aside0.mk hr
  clear hr
  have HL := Aside0.mk hl
  clear hl
  go_enter Try.func71, Try.ntmps71
  go_wp2_with fail
  refine (clone_ints A c l _ ?_ HL.out).mono ?_
  · exact Kd.C_below HR.out (((Below.refl _ w).alloc (Nat.le_refl _) _).alloc (by simp) _)
  rintro e w1 ⟨v, rfl, ho, hb⟩
  have bk1 : w1.heap[w.heap.size]? = some (.cells #[.slice A l.length c, .int .i64 b, .int .i64 a, .bool wh, .int .i64 ex] 33 (0, 0)) := by
    rw [hb.block _ (by simp; omega)]; exact (Below.heap_alloc _ _ _ (by simp)).trans (blk_new _ _)
  have bk2 : w1.heap[w.heap.size + 1]? = some (.cells #[.slice none 0 0, .int .i64 0, .int .i64 0, .bool false, .int .i64 0] 33 (0, 0)) := by
    rw [hb.block _ (by simp)]; have := blk_new (w.alloc (Obj.cells #[Value.slice A l.length c, Value.int IntKind.i64 b, Value.int IntKind.i64 a, Value.bool wh, Value.int IntKind.i64 ex] 33)) (Obj.cells #[Value.slice none 0 0, Value.int IntKind.i64 0, Value.int IntKind.i64 0, Value.bool false, Value.int IntKind.i64 0] 33); simpa using this
  have hs : w.heap.size + 2 ≤ w1.heap.size := by have := hb.size; simp at this; omega
  have HO := Aside0.mk ho
  have HBl := Aside0.mk ((((Below.refl w.heap.size w).alloc (Nat.le_refl _) _).alloc (by simp) _).trans (hb.mono (by simp; omega)))
  clear ho hb
  have BK1 := Aside0.mk bk1
  have BK2 := Aside0.mk bk2
  have c0 := (cells_of_blk bk1).1 0
  have f0 := (cells_of_blk bk1).2
  have c1 := (cells_of_blk bk1).1 1
  have c2 := (cells_of_blk bk1).1 2
  have c3 := (cells_of_blk bk1).1 3
  have c4 := (cells_of_blk bk1).1 4
  have d0 := (cells_of_blk bk2).1 0
  have d1 := (cells_of_blk bk2).1 1
  have d2 := (cells_of_blk bk2).1 2
  have d3 := (cells_of_blk bk2).1 3
  have d4 := (cells_of_blk bk2).1 4
  have g0 := (cells_of_blk bk2).2
  clear bk1 bk2
  obtain ⟨A1, c1', rfl⟩ := Kd.R_slice HO.out
  go_wp2
  refine bodyPost_ret (v := .agg #[.slice A1 l.length c1', .int .i64 b, .int .i64 a, .bool wh, .int .i64 ex]) (by simp [results, Try.results71, go_sem, c0, c1, c2, c3, c4, d0, d1, d2, d3, d4]) rfl ⟨_, rfl, ?_, ?_⟩
  · refine Kd.R_lower (base := w.heap.size + 2) (R_low (R_low (R_low (R_low (R_low (R_low ?_ (by simp) _) (by simp) _) (by simp) _) (by simp) _) (by simp) _) (by simp) _) (by omega)
    have := HO.out
    simpa using this
  · exact (((((HBl.out.setCell (Nat.le_refl _) _).setCell (by simp) _).setCell (by simp) _).setCell (by simp) _).setCell (by simp) _).setCell (by simp) _

/-! ### What the comparisons tell -/
def num (b : Bool) : Int := if b = true then 0 else 1
def cmpF (x y : S33) : Int := orI [cmpI (num x.f3) (num y.f3), cmpI x.f4 y.f4, cmpL x.f0 y.f0, cmpI x.f1 y.f1, cmpI x.f2 y.f2]

theorem num_f (b : Bool) : rank_number.f b = some (num b) := by cases b <;> rfl
theorem cmp_f (a b : Int) : cmp_Compare_int.f a b = some (cmpI a b) := by
  unfold cmp_Compare_int.f cmp_isNaN_int.f cmpI
  simp only [bne_self_eq_false, Option.bind_some, Bool.false_eq_true, if_false]
  by_cases h : a < b
  · rw [if_pos h, if_pos h]
  · rw [if_neg h, if_neg h]
    by_cases h2 : a > b
    · rw [if_pos h2, if_pos (by omega)]
    · rw [if_neg h2, if_neg (by omega)]
theorem wrap_small (x : Int) (h0 : -9223372036854775808 ≤ x) (h1 : x < 9223372036854775808) : wrap64 x = x := by
  unfold wrap64; omega
theorem or_l (r : List Int) (hm : r.length ≤ 1000000000000) (d : Nat) : ∀ (k i : Nat), r.length - i = d → i ≤ r.length → d < k → cmp_Or_int.l0 k 0 r (r.length : Int) (i : Int) = some (orI (r.drop i)) := by
  induction d with
  | zero =>
    intro k i hd hi hk
    obtain ⟨k, rfl⟩ : ∃ m, k = m + 1 := ⟨k - 1, by omega⟩
    simp only [cmp_Or_int.l0]
    rw [if_neg (by omega), List.drop_of_length_le (by omega)]
    rfl
  | succ d ih =>
    intro k i hd hi hk
    obtain ⟨k, rfl⟩ : ∃ m, k = m + 1 := ⟨k - 1, by omega⟩
    simp only [cmp_Or_int.l0]
    have hlt : i < r.length := by omega
    rw [if_pos (by omega), if_pos (by omega), if_pos (by omega), wrap_small _ (by omega) (by omega)]
    rw [List.drop_eq_getElem_cons hlt]
    have e : rd r (i : Int) = r[i] := by unfold rd; simp [hlt]
    rw [e]
    simp only [orI]
    by_cases h : r[i] = 0
    · rw [if_pos h, if_pos h]
      have := ih k (i + 1) (by omega) (by omega) (by omega)
      rw [← this]; congr 1
    · rw [if_neg h, if_neg h]
theorem or_f (r : List Int) (hm : r.length ≤ 1000000000000) (k : Nat) (hk : r.length < k) : cmp_Or_int.f k r = some (orI r) := by
  unfold cmp_Or_int.f
  have := or_l r hm r.length k 0 (by omega) (by omega) hk
  simpa using this
theorem len_l (x y : List Int) (hx : x.length ≤ 1000000000000) (d : Nat) : ∀ (k i : Nat), x.length - i = d → i ≤ x.length → i ≤ y.length → d < k → slices_Compare_int_int.l0 k x y x (x.length : Int) (i : Int) = some (cmpL (x.drop i) (y.drop i)) := by
  induction d with
  | zero =>
    intro k i hd hi hj hk
    obtain ⟨k, rfl⟩ : ∃ m, k = m + 1 := ⟨k - 1, by omega⟩
    simp only [slices_Compare_int_int.l0]
    rw [if_neg (by omega), List.drop_of_length_le (by omega : x.length ≤ i)]
    by_cases h : (x.length : Int) < (y.length : Int)
    · rw [if_pos h, List.drop_eq_getElem_cons (by omega : i < y.length)]; rfl
    · rw [if_neg h, List.drop_of_length_le (by omega : y.length ≤ i)]; rfl
  | succ d ih =>
    intro k i hd hi hj hk
    obtain ⟨k, rfl⟩ : ∃ m, k = m + 1 := ⟨k - 1, by omega⟩
    simp only [slices_Compare_int_int.l0]
    have hlt : i < x.length := by omega
    rw [if_pos (by omega), if_pos (by omega), if_pos (by omega), List.drop_eq_getElem_cons hlt]
    by_cases h : (i : Int) ≥ (y.length : Int)
    · rw [if_pos h, List.drop_of_length_le (by omega : y.length ≤ i)]; rfl
    · rw [if_neg h, if_pos (by omega)]
      have hly : i < y.length := by omega
      rw [List.drop_eq_getElem_cons hly]
      have e : rd x (i : Int) = x[i] := by unfold rd; simp [hlt]
      have e' : rd y (i : Int) = y[i] := by unfold rd; simp [hly]
      rw [e, e', cmp_f, wrap_small _ (by omega) (by omega)]
      simp only [Option.bind_some, cmpL, cmpI]
      by_cases h1 : x[i] < y[i]
      · rw [if_pos h1, if_pos h1]; rfl
      · rw [if_neg h1, if_neg h1]
        by_cases h2 : y[i] < x[i]
        · rw [if_pos h2, if_pos h2]; rfl
        · rw [if_neg h2, if_neg h2, if_pos rfl]
          have := ih k (i + 1) (by omega) (by omega) (by omega) (by omega)
          rw [← this]; congr 1
theorem utf_f (x y : List Int) (hx : x.length ≤ 1000000000000) (k : Nat) (hk : x.length < k) : utf_Compare.f k x y = some (cmpL x y) := by
  unfold utf_Compare.f slices_Compare_int_int.f
  have := len_l x y hx x.length k 0 (by omega) (by omega) (by omega) hk
  simp only [List.drop_zero] at this
  have e : ((0 : Nat) : Int) = 0 := rfl
  rw [e] at this
  rw [this]; rfl
theorem compare_f (x y : S33) (hx : x.f0.length ≤ 1000000000000) (k : Nat) (hk : x.f0.length + 5 < k) : rank_Compare.f k x.f0 x.f1 x.f2 x.f3 x.f4 y.f0 y.f1 y.f2 y.f3 y.f4 = some (cmpF x y) := by
  unfold rank_Compare.f
  rw [num_f, num_f]
  simp only [Option.bind_some]
  rw [cmp_f, cmp_f, cmp_f, cmp_f, utf_f x.f0 y.f0 hx k (by omega)]
  simp only [Option.bind_some]
  rw [or_f _ (by simp) k (by simp; omega)]
  rfl

theorem num_calls (b : Bool) (w : World) : Calls Try.prog 67 #[.bool b] w fun e w' => e = .returned (.int .i64 (num b)) ∧ Drawn0 w w' := rank_number.calls b (num b) w (num_f b)
theorem cmp_calls (a b : Int) (w : World) : Calls Try.prog 66 #[.int .i64 a, .int .i64 b] w fun e w' => e = .returned (.int .i64 (cmpI a b)) ∧ Drawn0 w w' := cmp_Compare_int.calls a b (cmpI a b) w (cmp_f a b)
theorem utf_calls (A0 : Option Addr) (c0 : Nat) (l0 : List Int) (A1 : Option Addr) (c1 : Nat) (l1 : List Int) (w : World) (hr0 : Kd.C (Kd.int .i64) w A0 l0.length l0) (hc0 : l0.length ≤ c0) (hr1 : Kd.C (Kd.int .i64) w A1 l1.length l1) (hc1 : l1.length ≤ c1) (hl : l0.length ≤ 1000000000000) :
    Calls Try.prog 68 #[.slice A0 l0.length c0, .slice A1 l1.length c1] w fun e w' => e = .returned (.int .i64 (cmpL l0 l1)) ∧ Drawn0 w w' := utf_Compare.calls (l0.length + 1) A0 c0 l0 A1 c1 l1 (cmpL l0 l1) w hr0 hc0 hr1 hc1 (utf_f l0 l1 hl _ (by omega))
theorem or_calls (A0 : Option Addr) (c0 : Nat) (l0 : List Int) (w : World) (hr0 : Kd.C (Kd.int .i64) w A0 l0.length l0) (hc0 : l0.length ≤ c0) (hl : l0.length ≤ 1000000000000) :
    Calls Try.prog 65 #[.slice A0 l0.length c0] w fun e w' => e = .returned (.int .i64 (orI l0)) ∧ Drawn0 w w' := cmp_Or_int.calls (l0.length + 1) A0 c0 l0 (orI l0) w hr0 hc0 (or_f l0 hl _ (by omega))

theorem lit_C (W : World) (l : List Int) (t : Nat) (hl : l.length ≤ 9223372036854775807) : Kd.C (Kd.int .i64) (W.alloc (.cells (nums .i64 l).toArray t)) (some ⟨W.heap.size, 0, none⟩) l.length l := by
  refine ⟨rfl, hl, fun hn => ⟨_, rfl, fun j p hj => ⟨[.int .i64 p], rfl, rfl, fun i u hu => ?_⟩⟩⟩
  rcases i with _ | i
  · simp only [List.getElem?_cons_zero, Option.some.injEq] at hu
    subst hu
    have hb := blk_new W (.cells (nums .i64 l).toArray t)
    have e : (⟨W.heap.size, 0, none⟩ : Addr).add (j * (Kd.int .i64).sz + 0) = ⟨W.heap.size, j, none⟩ := by
      show (⟨W.heap.size, 0, none⟩ : Addr).add (j * 1 + 0) = _
      rw [Nat.mul_one, Nat.add_zero]
      unfold Addr.add
      by_cases h0 : j = 0
      · subst h0; simp
      · simp [h0]
    rw [e, (cells_of_blk hb).1 j]
    simp [nums, hj]
  · simp at hu

set_option maxHeartbeats 2000000 in
set_option maxRecDepth 100000 in
/-- rank.Compare: the order of two finds; it draws, and lays blocks. -/
theorem compare_grows (A0 : Option Addr) (c0 : Nat) (A1 : Option Addr) (c1 : Nat) (x y : S33) (w : World) (hr0 : Kd.C (Kd.int .i64) w A0 x.f0.length x.f0) (hc0 : x.f0.length ≤ c0) (hr1 : Kd.C (Kd.int .i64) w A1 y.f0.length y.f0) (hc1 : y.f0.length ≤ c1) (hl : x.f0.length ≤ 1000000000000) :
    Calls Try.prog 25 #[.agg #[.slice A0 x.f0.length c0, .int .i64 x.f1, .int .i64 x.f2, .bool x.f3, .int .i64 x.f4], .agg #[.slice A1 y.f0.length c1, .int .i64 y.f1, .int .i64 y.f2, .bool y.f3, .int .i64 y.f4]] w fun e w' => e = .returned (.int .i64 (cmpF x y)) ∧ Grows w w' := by
  have HR0 := Aside0.mk hr0
  have HR1 := Aside0.mk hr1
  have HC := Aside0.mk (And.intro hc0 (And.intro hc1 hl))
  clear hr0 hc0 hr1 hc1 hl
  go_enter Try.func25, Try.ntmps25
  go_wp2_with fail
  have G0 := Aside0.mk (((Grows.refl w).alloc (.cells #[.slice A0 x.f0.length c0, .int .i64 x.f1, .int .i64 x.f2, .bool x.f3, .int .i64 x.f4] 33)).alloc (.cells #[.slice A1 y.f0.length c1, .int .i64 y.f1, .int .i64 y.f2, .bool y.f3, .int .i64 y.f4] 33))
  have b1 : ((w.alloc (.cells #[.slice A0 x.f0.length c0, .int .i64 x.f1, .int .i64 x.f2, .bool x.f3, .int .i64 x.f4] 33)).alloc (.cells #[.slice A1 y.f0.length c1, .int .i64 y.f1, .int .i64 y.f2, .bool y.f3, .int .i64 y.f4] 33)).heap[w.heap.size]? = some (.cells #[.slice A0 x.f0.length c0, .int .i64 x.f1, .int .i64 x.f2, .bool x.f3, .int .i64 x.f4] 33 (0, 0)) := (Below.heap_alloc _ _ _ (by simp)).trans (blk_new _ _)
  have b2 : ((w.alloc (.cells #[.slice A0 x.f0.length c0, .int .i64 x.f1, .int .i64 x.f2, .bool x.f3, .int .i64 x.f4] 33)).alloc (.cells #[.slice A1 y.f0.length c1, .int .i64 y.f1, .int .i64 y.f2, .bool y.f3, .int .i64 y.f4] 33)).heap[w.heap.size + 1]? = some (.cells #[.slice A1 y.f0.length c1, .int .i64 y.f1, .int .i64 y.f2, .bool y.f3, .int .i64 y.f4] 33 (0, 0)) := by have := blk_new (w.alloc (.cells #[.slice A0 x.f0.length c0, .int .i64 x.f1, .int .i64 x.f2, .bool x.f3, .int .i64 x.f4] 33)) (Obj.cells #[.slice A1 y.f0.length c1, .int .i64 y.f1, .int .i64 y.f2, .bool y.f3, .int .i64 y.f4] 33); simpa using this
  obtain ⟨B1, hB1⟩ : ∃ B1, B1 = w.heap.size := ⟨_, rfl⟩
  obtain ⟨B2, hB2⟩ : ∃ B2, B2 = w.heap.size + 1 := ⟨_, rfl⟩
  generalize ((w.alloc (.cells #[.slice A0 x.f0.length c0, .int .i64 x.f1, .int .i64 x.f2, .bool x.f3, .int .i64 x.f4] 33)).alloc (.cells #[.slice A1 y.f0.length c1, .int .i64 y.f1, .int .i64 y.f2, .bool y.f3, .int .i64 y.f4] 33)) = W at G0 b1 b2 ⊢
  rw [← hB2] at b2 ⊢
  rw [← hB1] at b1 ⊢
  have n1 := hB1
  have n2 := hB2
  have HN := Aside0.mk (And.intro hB1 hB2)
  clear hB1 hB2 n1 n2
  have k0 : W.cell? ⟨B1, 0, none⟩ = some (.slice A0 x.f0.length c0) := (cells_of_blk b1).1 0
  have k1 : W.cell? ⟨B1, 1, none⟩ = some (.int .i64 x.f1) := (cells_of_blk b1).1 1
  have k2 : W.cell? ⟨B1, 2, none⟩ = some (.int .i64 x.f2) := (cells_of_blk b1).1 2
  have k3 : W.cell? ⟨B1, 3, none⟩ = some (.bool x.f3) := (cells_of_blk b1).1 3
  have k4 : W.cell? ⟨B1, 4, none⟩ = some (.int .i64 x.f4) := (cells_of_blk b1).1 4
  have m0 : W.cell? ⟨B2, 0, none⟩ = some (.slice A1 y.f0.length c1) := (cells_of_blk b2).1 0
  have m1 : W.cell? ⟨B2, 1, none⟩ = some (.int .i64 y.f1) := (cells_of_blk b2).1 1
  have m2 : W.cell? ⟨B2, 2, none⟩ = some (.int .i64 y.f2) := (cells_of_blk b2).1 2
  have m3 : W.cell? ⟨B2, 3, none⟩ = some (.bool y.f3) := (cells_of_blk b2).1 3
  have m4 : W.cell? ⟨B2, 4, none⟩ = some (.int .i64 y.f4) := (cells_of_blk b2).1 4
  clear b1 b2
  go_region_held3 (fun w' => w'.cell? ⟨B1, 0, none⟩ = some (.slice A0 x.f0.length c0) ∧ w'.cell? ⟨B1, 1, none⟩ = some (.int .i64 x.f1) ∧ w'.cell? ⟨B1, 2, none⟩ = some (.int .i64 x.f2) ∧ w'.cell? ⟨B1, 3, none⟩ = some (.bool x.f3) ∧ w'.cell? ⟨B1, 4, none⟩ = some (.int .i64 x.f4) ∧
      w'.cell? ⟨B2, 0, none⟩ = some (.slice A1 y.f0.length c1) ∧ w'.cell? ⟨B2, 1, none⟩ = some (.int .i64 y.f1) ∧ w'.cell? ⟨B2, 2, none⟩ = some (.int .i64 y.f2) ∧ w'.cell? ⟨B2, 3, none⟩ = some (.bool y.f3) ∧ w'.cell? ⟨B2, 4, none⟩ = some (.int .i64 y.f4))
    (first | exact ⟨k0, k1, k2, k3, k4, m0, m1, m2, m3, m4⟩ | go_keep)
    ((first
      | (go_simp; go_at_call 67; refine (num_calls _ _).mono ?_; rintro e w2 ⟨rfl, ⟨q, rfl⟩⟩)
      | (go_simp; go_at_call 66; refine (cmp_calls _ _ _).mono ?_; rintro e w2 ⟨rfl, ⟨q, rfl⟩⟩)
      | (go_simp; go_at_call 68; refine (utf_calls A0 c0 x.f0 A1 c1 y.f0 _ (Kd.C_below HR0.out (by repeat (first | exact G0.out.below | apply pw_below_drewN | apply below_drew1 | apply below_alloc))) HC.out.1 (Kd.C_below HR1.out (by repeat (first | exact G0.out.below | apply pw_below_drewN | apply below_drew1 | apply below_alloc))) HC.out.2.1 HC.out.2.2).mono ?_; rintro e w2 ⟨rfl, ⟨q, rfl⟩⟩)
      | (go_simp; go_at_call 65; refine (or_calls _ _ [_, _, _, _, _] _ (lit_C _ [_, _, _, _, _] _ (by simp)) (by simp) (by simp)).mono ?_; rintro e w2 ⟨rfl, ⟨q, rfl⟩⟩)))
  go_wp2
  go_ret
  exact ⟨rfl, ((G0.out.drewN _).alloc _).drewN _⟩
end Go.Proofs.Ytgfmplhpoblleaa.RankW
