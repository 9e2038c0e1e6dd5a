/- RankA, FailA, FailB, Shelf2, FailC, FailD, FailE, FailF, FailG, FailP, FailQ, FailJ, FailK, FailM. -/
import Derived.Test.YtgfmplhpoblleaaMB4
import Derived.WalkSpells
import Derived.Shelf.SlGeneric
import Derived.Shelf.Sort.Plain
import Derived.Ground.NamesProg
import Derived.Test.YtgfmplhpoblleaaProg
import Derived.Shelf.Slices.In.SortNone
import Derived.Shelf.Spec.SlicesInsert
import Derived.Lib.AppendZerosOnto
import Derived.Laws.NewBlocks
import Derived.RangeFuncNested
import Derived.RangeFuncBound
import Derived.RangeFuncCalls
import Derived.RangeFuncLeaves
import Derived.RangeFuncFrom
import Derived.RangeFuncWrites
import Derived.Shelf.Abstract
import Derived.WalkKit
import Derived.OwnWalkIn
import Derived.TacticsInMore
import Derived.LoopNIn
import Derived.LoopIn
import Derived.Deep.AppendLies
import Derived.Deep.RegionHeld3
section
/- rank.clone, rank.Compare: what they compute, and what becomes of memory. -/
namespace Go.Proofs.Ytgfmplhpoblleaa.RankW
open Go.RowKit Go.Proofs.YtgfmplhpoblleaaW.PrintWords Go.Proofs.YtgfmplhpoblleaaW.PrintLast Go.Proofs.YtgfmplhpoblleaaW.PrintMore Go.Proofs.Ytgfmplhpoblleaa.PRank Go.Proofs.Ytgfmplhpoblleaa.SortOwn Go.Proofs.Ytgfmplhpoblleaa.Cmps
set_option linter.unusedVariables false
set_option linter.unusedSimpArgs false


theorem i64_info : (Try.prog.info? 3).map (fun i => (i.zero, i.size, i.bytes)) = some (some (.int .i64 0), 1, 8) := info3

set_option maxHeartbeats 800000 in
set_option maxRecDepth 100000 in
/-- slices.Clone of ints: the same numbers in new memory; nil stays nil. -/
theorem clone_ints (A : Option Addr) (c : Nat) (l : List Int) (w : World) (hr : Kd.C (Kd.int .i64) w A l.length l) (hl : l.length * 8 ≤ 140737488355328) :
    Calls Try.prog 87 #[.slice A l.length c] w fun e w' => ∃ v, e = .returned v ∧ Kd.R (Kd.int .i64) 3 w' w.heap.size (fun _ => True) v l ∧ Below w.heap.size w w' := by
  have hq := fun w => Go.Lib.run_eql_slice_nil (P := Try.prog) w 23 3 A l.length c 0 0 Try.underlying23
  cases A with
  | none =>
    have h0 : l.length = 0 := by
      rcases Nat.eq_zero_or_pos l.length with h | h
      · exact h
      · obtain ⟨ad, h1, _⟩ := hr.2.2 h; cases h1
    have hnil : l = [] := List.length_eq_zero_iff.1 h0
    subst hnil
    simp only [Option.isNone_none, List.length_nil] at hq
    clear hr hl h0
    go_enter Try.func87, Try.ntmps87
    go_wp2
    go_ret
    exact ⟨_, rfl, Kd.R_nil _ _ _ _ _, Below.refl _ _⟩
  | some ad =>
    simp only [Option.isNone_some] at hq
    have HR := Aside0.mk hr
    clear hr
    go_enter Try.func87, Try.ntmps87
    go_wp2_with (first
      | ((with_reducible refine gate_dst (N := 5) rfl ?_); refine Kd.R_lit (Kd.int .i64) w.heap.size 3 ?hg (N := 5) ?hd (xs := ([] : List Int)) (inner := []) (ok := fun _ => True) (okp := fun _ => True) ?hr ?hp (fun _ hk => hk) trivial (Below.refl _ _) (Nat.le_refl _) (by simp) ?_; (case hd => rfl); (case hg => rfl); (case hr => first | (go_simp; done) | (go_simp; rfl)); (case hp => exact Reps.none _ _); intro v1 w1 ho1 hb1 hg1 hn1; have HO := Aside0.mk ho1; have HB := Aside0.mk hb1; clear ho1 hb1 hg1 hn1)
      | ((with_reducible refine gate_dst (N := 7) rfl ?_); refine Kd.R_append_row (Value.int .i64) (0 : Int) (h1 := fun _ => rfl) (w0 := w) w.heap.size rfl (.tmp 5) (.tmp 6) 23 3 (.int .i64 0) 8 rfl Try.underlying23 i64_info rfl (by decide) _ [] l (some ad) l.length c (fun _ => True) rfl rfl (fun _ _ => trivial) HO.out (Kd.C_below HR.out HB.out) HB.out (below_size HB.out) (by simpa using hl) ?_; intro v2 w2 ho2 hb2 hg2 hn2; have HO2 := Aside0.mk ho2; have HB2 := Aside0.mk hb2; clear ho2 hb2 hg2 hn2))
    go_ret
    exact ⟨_, rfl, HO2.out, HB2.out⟩


theorem cells_of_blk {w : World} {g t : Nat} {cs : Array Value} (h : w.heap[g]? = some (.cells cs t (0, 0))) : (∀ i, w.cell? ⟨g, i, none⟩ = cs[i]?) ∧ ∀ i, w.frozen? ⟨g, i, none⟩ = false := by
  constructor
  · intro i; simp [World.cell?, h]
  · intro i; simp [World.frozen?, h]

/-! ### What the comparisons tell -/
def num (b : Bool) : Int := if b = true then 0 else 1
def cmpF (x y : S33) : Int := orI [cmpI (num x.f3) (num y.f3), cmpI x.f4 y.f4, cmpL x.f0 y.f0, cmpI x.f1 y.f1, cmpI x.f2 y.f2]

theorem cmp_f (a b : Int) : cmp_Compare_int.f a b = some (cmpI a b) := by
  unfold cmp_Compare_int.f cmp_isNaN_int.f cmpI
  simp only [bne_self_eq_false, Option.bind_some, Bool.false_eq_true, if_false]
  by_cases h : a < b
  · rw [if_pos h, if_pos h]
  · rw [if_neg h, if_neg h]
    by_cases h2 : a > b
    · rw [if_pos h2, if_pos (by omega)]
    · rw [if_neg h2, if_neg (by omega)]
theorem wrap_small (x : Int) (h0 : -9223372036854775808 ≤ x) (h1 : x < 9223372036854775808) : wrap64 x = x := by
  unfold wrap64; omega
theorem or_l (r : List Int) (hm : r.length ≤ 1000000000000) (d : Nat) : ∀ (k i : Nat), r.length - i = d → i ≤ r.length → d < k → cmp_Or_int.l0 k 0 r (r.length : Int) (i : Int) = some (orI (r.drop i)) := by
  induction d with
  | zero =>
    intro k i hd hi hk
    obtain ⟨k, rfl⟩ : ∃ m, k = m + 1 := ⟨k - 1, by omega⟩
    simp only [cmp_Or_int.l0]
    rw [if_neg (by omega), List.drop_of_length_le (by omega)]
    rfl
  | succ d ih =>
    intro k i hd hi hk
    obtain ⟨k, rfl⟩ : ∃ m, k = m + 1 := ⟨k - 1, by omega⟩
    simp only [cmp_Or_int.l0]
    have hlt : i < r.length := by omega
    rw [if_pos (by omega), if_pos (by omega), if_pos (by omega), wrap_small _ (by omega) (by omega)]
    rw [List.drop_eq_getElem_cons hlt]
    have e : rd r (i : Int) = r[i] := by unfold rd; simp [hlt]
    rw [e]
    simp only [orI]
    by_cases h : r[i] = 0
    · rw [if_pos h, if_pos h]
      have := ih k (i + 1) (by omega) (by omega) (by omega)
      rw [← this]; congr 1
    · rw [if_neg h, if_neg h]
theorem or_f (r : List Int) (hm : r.length ≤ 1000000000000) (k : Nat) (hk : r.length < k) : cmp_Or_int.f k r = some (orI r) := by
  unfold cmp_Or_int.f
  have := or_l r hm r.length k 0 (by omega) (by omega) hk
  simpa using this
theorem cmp_calls (a b : Int) (w : World) : Calls Try.prog 66 #[.int .i64 a, .int .i64 b] w fun e w' => e = .returned (.int .i64 (cmpI a b)) ∧ Drawn0 w w' := cmp_Compare_int.calls a b (cmpI a b) w (cmp_f a b)
theorem or_calls (A0 : Option Addr) (c0 : Nat) (l0 : List Int) (w : World) (hr0 : Kd.C (Kd.int .i64) w A0 l0.length l0) (hc0 : l0.length ≤ c0) (hl : l0.length ≤ 1000000000000) :
    Calls Try.prog 65 #[.slice A0 l0.length c0] w fun e w' => e = .returned (.int .i64 (orI l0)) ∧ Drawn0 w w' := cmp_Or_int.calls (l0.length + 1) A0 c0 l0 (orI l0) w hr0 hc0 (or_f l0 hl _ (by omega))

theorem lit_C (W : World) (l : List Int) (t : Nat) (hl : l.length ≤ 9223372036854775807) : Kd.C (Kd.int .i64) (W.alloc (.cells (nums .i64 l).toArray t)) (some ⟨W.heap.size, 0, none⟩) l.length l := by
  refine ⟨rfl, hl, fun hn => ⟨_, rfl, fun j p hj => ⟨[.int .i64 p], rfl, rfl, fun i u hu => ?_⟩⟩⟩
  rcases i with _ | i
  · simp only [List.getElem?_cons_zero, Option.some.injEq] at hu
    subst hu
    have hb := blk_new W (.cells (nums .i64 l).toArray t)
    have e : (⟨W.heap.size, 0, none⟩ : Addr).add (j * (Kd.int .i64).sz + 0) = ⟨W.heap.size, j, none⟩ := by
      show (⟨W.heap.size, 0, none⟩ : Addr).add (j * 1 + 0) = _
      rw [Nat.mul_one, Nat.add_zero]
      unfold Addr.add
      by_cases h0 : j = 0
      · subst h0; simp
      · simp [h0]
    rw [e, (cells_of_blk hb).1 j]
    simp [nums, hj]
  · simp at hu

end Go.Proofs.Ytgfmplhpoblleaa.RankW
end
section
/- trie: slices.BinarySearchFunc over edges; place, find, Step, Depth, Ends. -/
namespace Go.Proofs.Ytgfmplhpoblleaa.FailW
open Go.RowKit Go.Proofs.YtgfmplhpoblleaaW.PrintWords Go.Proofs.YtgfmplhpoblleaaW.PrintLast Go.Proofs.YtgfmplhpoblleaaW.PrintMore Go.Proofs.Ytgfmplhpoblleaa.PRank Go.Proofs.Ytgfmplhpoblleaa.PFB Go.Proofs.Ytgfmplhpoblleaa.RankW Go.Proofs.Ytgfmplhpoblleaa.SortOwn Go.Proofs.Ytgfmplhpoblleaa
open Go.Proofs.Ytgfmplhpoblleaa.Cmps hiding dedup
set_option linter.unusedVariables false
set_option linter.unusedSimpArgs false

/-! ### The place of a number among elements that rise -/
/-- How many are ahead of it. -/
def ahead {α : Type} (cf : α → Int) (l : List α) : Nat := (l.takeWhile (fun x => cf x < 0)).length
theorem ahead_of {α : Type} (cf : α → Int) : ∀ (l : List α) (i : Nat), i ≤ l.length → (∀ j (h : j < l.length), j < i → cf l[j] < 0) → (∀ j (h : j < l.length), i ≤ j → ¬ cf l[j] < 0) → ahead cf l = i
  | [], i, hi, _, _ => by simp at hi; subst hi; rfl
  | x :: l, 0, _, _, h2 => by
    have := h2 0 (by simp) (by omega)
    simp only [List.getElem_cons_zero] at this
    unfold ahead
    rw [List.takeWhile_cons, if_neg (by simpa using this)]; rfl
  | x :: l, i + 1, hi, h1, h2 => by
    have h0 := h1 0 (by simp) (by omega)
    simp only [List.getElem_cons_zero] at h0
    have := ahead_of cf l i (by simpa using hi) (fun j h hj => by have := h1 (j + 1) (by simpa using h) (by omega); simpa using this) (fun j h hj => by have := h2 (j + 1) (by simpa using h) (by omega); simpa using this)
    unfold ahead at this ⊢
    rw [List.takeWhile_cons, if_pos (by simpa using h0), List.length_cons, this]
/-- Is one there that compares as it? -/
def there {α : Type} (cf : α → Int) (l : List α) : Bool := match l[ahead cf l]? with
  | some x => cf x == 0
  | none => false
theorem ahead_le {α : Type} (cf : α → Int) (l : List α) : ahead cf l ≤ l.length := by
  unfold ahead; exact (List.takeWhile_sublist _).length_le

theorem edge_at {w : World} {A : Option Addr} {n : Nat} {l : List S122} (h : Kd.C k122 w A n l) (i : Nat) (hi : i < l.length) : ∃ ad, A = some ad ∧ w.cell? (ad.add (i * 2)) = some (.int .i64 l[i].f0) ∧ w.cell? ⟨(ad.add (i * 2)).block, (ad.add (i * 2)).off + 1, none⟩ = some (.int .i64 l[i].f1) := by
  obtain ⟨ad, e, h0, h1⟩ := at_T122 h (i : Int) (by omega) (by have := h.1; omega)
  have er : rd_T122 l (i : Int) = l[i] := by unfold rd_T122; simp [hi]
  rw [er] at h0 h1
  exact ⟨ad, e, h0, h1⟩
set_option maxHeartbeats 1000000 in
set_option maxRecDepth 100000 in
/-- The closure of place. -/
theorem edge_cmp (x : S122) (c : Int) (w : World) : Calls Try.prog 118 #[.agg #[.int .i64 x.f0, .int .i64 x.f1], .int .i64 c] w fun e w' => e = .returned (.int .i64 (cmpI x.f0 c)) ∧ Grows w w' := by
  go_enter Try.func118, Try.ntmps118
  go_wp2_with ((go_at_call 66; refine (cmp_calls _ _ _).mono ?_; rintro e w2 ⟨rfl, ⟨q, rfl⟩⟩))
  go_ret
  exact ⟨rfl, ((Grows.refl w).alloc _).drewN _⟩

theorem cell_grows {W w2 : World} {a : Addr} {v : Value} (h : Grows W w2) (hc : W.cell? a = some v) : w2.cell? a = some v := (h.below.cell (World.block_lt_of_cell? W a hc)).trans hc

/-- Edges rise: those ahead of a number stand ahead. -/
def Rising (l : List S122) : Prop := l.Pairwise (fun a b => a.f0 < b.f0)
/-- The place of a number. -/
def place (l : List S122) (t : Int) : Nat := ahead (fun x : S122 => cmpI x.f0 t) l
def has (l : List S122) (t : Int) : Bool := there (fun x : S122 => cmpI x.f0 t) l
theorem cmpI_neg {a b : Int} : cmpI a b < 0 ↔ a < b := by unfold cmpI; split <;> (try split) <;> omega

set_option maxHeartbeats 4000000 in
set_option maxRecDepth 100000 in
/-- slices.BinarySearchFunc over edges. -/
theorem bsearch (A : Option Addr) (c : Nat) (l : List S122) (t : Int) (w : World) (hC : Kd.C k122 w A l.length l) (hlen : l.length < 4611686018427387904) (hR : Rising l) :
    Calls Try.prog 117 #[.slice A l.length c, .int .i64 t, .func (.func 118) #[] #[]] w fun e w' => e = .returned (.tuple #[.int .i64 (place l t), .bool (has l t)]) ∧ Grows w w' := by
  have HC := Aside0.mk hC
  have hmono : ∀ i j (hi : i < l.length) (hj : j < l.length), i ≤ j → cmpI l[j].f0 t < 0 → cmpI l[i].f0 t < 0 := by
    intro i j hi hj hij h
    rw [cmpI_neg] at h ⊢
    rcases Nat.eq_or_lt_of_le hij with rfl | hlt
    · exact h
    · have := List.pairwise_iff_getElem.1 hR i j hi hj hlt; omega
  have HM := Aside0.mk hmono
  clear hC hmono hR
  go_enter Try.func117, Try.ntmps117
  go_wp2
  go_loopw [9, 10] (fun iv jv wr => ∃ i j : Nat, i ≤ j ∧ j ≤ l.length ∧ iv = .int .i64 i ∧ jv = .int .i64 j ∧ (∀ m (h : m < l.length), m < i → cmpI l[m].f0 t < 0) ∧ (∀ m (h : m < l.length), j ≤ m → ¬ cmpI l[m].f0 t < 0) ∧ Grows w wr) (fun iv jv wr => (intOf jv).toNat - (intOf iv).toNat)
  case atStart =>
    exact ⟨0, l.length, by omega, by omega, rfl, rfl, fun m h hm => by omega, fun m h hm => by omega, Grows.refl w⟩
  case round =>
    obtain ⟨i, j, hij, hjl, rfl, rfl, h1, h2, hg⟩ := hrel
    have H1 := Aside0.mk h1
    have H2 := Aside0.mk h2
    have HG := Aside0.mk hg
    clear h1 h2 hg
    by_cases hlt : i < j
    · obtain ⟨ad, rfl, a0, a1⟩ := edge_at HC.out ((i + j) / 2) (by omega)
      replace a0 := cell_grows HG.out a0
      replace a1 := cell_grows HG.out a1
      by_cases hb : cmpI l[(i + j) / 2].f0 t < 0
      · have hb1 : decide (cmpI l[(i + j) / 2].f0 t < 0) = true := decide_eq_true hb
        have HB := Aside0.mk hb
        clear hb
        go_wp2_with ((go_at_call 118; refine (edge_cmp _ _ _).mono ?_; rintro e w2 ⟨rfl, hg2⟩; have G2 := Aside0.mk hg2; clear hg2))
        refine ⟨⟨(i + j) / 2 + 1, j, by omega, hjl, by go_num, rfl, fun m h hm => ?_, fun m h hm => by have := H2.out m h hm; omega, HG.out.trans G2.out⟩, by simp only [intOf]; omega⟩
        exact HM.out m ((i + j) / 2) h (by omega) (by omega) HB.out
      · have hb1 : decide (cmpI l[(i + j) / 2].f0 t < 0) = false := decide_eq_false hb
        have HB := Aside0.mk hb
        clear hb
        go_wp2_with ((go_at_call 118; refine (edge_cmp _ _ _).mono ?_; rintro e w2 ⟨rfl, hg2⟩; have G2 := Aside0.mk hg2; clear hg2))
        refine ⟨⟨i, (i + j) / 2, by omega, by omega, rfl, by go_num, fun m h hm => H1.out m h hm, fun m h hm hn => ?_, HG.out.trans G2.out⟩, by simp only [intOf]; omega⟩
        exact absurd (HM.out ((i + j) / 2) m (by omega) h hm hn) (by have := HB.out; omega)
    · obtain rfl : i = j := by omega
      have ha : place l t = i := ahead_of _ l i hjl (fun m h hm => H1.out m h hm) (fun m h hm => by have := H2.out m h hm; omega)
      by_cases hl : i < l.length
      · obtain ⟨ad, rfl, a0, a1⟩ := edge_at HC.out i hl
        replace a0 := cell_grows HG.out a0
        replace a1 := cell_grows HG.out a1
        have ht : has l t = (cmpI l[i].f0 t == 0) := by
          have e : ahead (fun x : S122 => cmpI x.f0 t) l = i := ha
          unfold has there
          rw [e, List.getElem?_eq_getElem hl]
        have HT := Aside0.mk (And.intro ha ht)
        clear ha ht
        go_wp2_with ((go_at_call 118; refine (edge_cmp _ _ _).mono ?_; rintro e w2 ⟨rfl, hg2⟩; have G2 := Aside0.mk hg2; clear hg2))
        go_ret2
        exact ⟨by rw [HT.out.1, HT.out.2]; rfl, HG.out.trans G2.out⟩
      · have ht : has l t = false := by
          have e : ahead (fun x : S122 => cmpI x.f0 t) l = i := ha
          unfold has there
          rw [e, List.getElem?_eq_none (by omega)]
        have HT := Aside0.mk (And.intro ha ht)
        clear ha ht
        go_wp2
        go_ret2
        exact ⟨by rw [HT.out.1, HT.out.2]; rfl, HG.out⟩

/-! ### Read-only pointers -/
/-- A pointer to what is only read. -/
def ptr {α : Type} (d : Kd α) : Kd α where
  sz := 1
  E := []
  K := fun w x cs => ∃ a c, cs = [.pointer (some a)] ∧ d.K w x c ∧ ∀ i u, c[i]? = some u → w.cell? (a.add i) = some u
  M := fun _ _ _ _ _ => False
  K_len := by rintro w x cs ⟨a, c, rfl, _⟩; rfl
  K_one := by
    rintro w x cs ⟨a, c, rfl, _⟩ u hu
    rw [List.mem_singleton.1 hu]
    rfl
  K_below := by
    rintro w w1 x cs hb ⟨a, c, rfl, hk, hc⟩
    exact ⟨a, c, rfl, d.K_below hb hk, fun i u hu => by have := hc i u hu; exact (hb.cell (World.block_lt_of_cell? w _ this)).trans this⟩
  K_of_M := fun h => h.elim
  M_mono := fun _ h => h
  M_bound := fun h => h
  M_move := fun _ h => h
  M_lower := fun _ h => h
/-- The nodes of a trie, by its pointer. -/
abbrev kTrie : Kd (List S106) := ptr (Kd.slice 106 k106)

/-- A node of a pointed-to node's edges: its place. -/
theorem place_calls (ad : Addr) (A : Option Addr) (c : Nat) (l : List S122) (t : Int) (w : World) (h3 : w.cell? ⟨ad.block, ad.off + 3, none⟩ = some (.slice A l.length c)) (hC : Kd.C k122 w A l.length l) (hlen : l.length < 4611686018427387904) (hR : Rising l) :
    Calls Try.prog 100 #[.pointer (some ad), .int .i64 t] w fun e w' => e = .returned (.tuple #[.int .i64 (place l t), .bool (has l t)]) ∧ Grows w w' := by
  have HC := Aside0.mk (And.intro hC hR)
  clear hC hR
  go_enter Try.func100, Try.ntmps100
  go_wp2_with ((go_at_call 117; refine (bsearch _ _ _ _ _ HC.out.1 hlen HC.out.2).mono ?_; rintro e w2 ⟨rfl, hg2⟩; have G2 := Aside0.mk hg2; clear hg2))
  go_ret2
  exact ⟨rfl, G2.out⟩

/-- The node of a number; none: an empty one. -/
def nodeOf (x : List S106) (n : Int) : S106 := if n < 0 then z106 else x.getD n.toNat z106

theorem new_grows (w : World) (o : Obj) : Grows w (w.alloc o) := (Grows.refl w).alloc o
theorem nodeOf_none {x : List S106} {n : Int} (h : n < 0 ∨ (x.length : Int) ≤ n) : nodeOf x n = z106 := by
  unfold nodeOf
  by_cases h0 : n < 0
  · rw [if_pos h0]
  · rw [if_neg h0, List.getD_eq_getElem?_getD, List.getElem?_eq_none (by omega)]; rfl
theorem k106_zero (w : World) : k106.K w z106 [.int .i64 0, .int .i64 0, .int .i64 0, .slice none 0 0, .slice none 0 0] := k106_mk w z106 (Nat.le_refl 0) (Kd.C_nil k122 w) (Nat.le_refl 0) (Kd.C_nil (Kd.int .i64) w)
set_option maxHeartbeats 1000000 in
set_option maxRecDepth 100000 in
theorem find_calls (a : Addr) (A : Option Addr) (c : Nat) (x : List S106) (n : Int) (w : World) (ha : w.cell? a = some (.slice A x.length c)) (hl : x.length ≤ c) (hC : Kd.C k106 w A x.length x) :
    Calls Try.prog 86 #[.pointer (some a), .int .i64 n] w fun e w' => ∃ cs : Array Value, e = .returned (.agg cs) ∧ k106.K w' (nodeOf x n) cs.toList ∧ Grows w w' := by
  have HC := Aside0.mk (And.intro hl hC)
  clear hl hC
  have hu := Try.underlying106
  by_cases h0 : n < 0
  · have h1 : decide (n < 0) = true := decide_eq_true h0
    go_enter Try.func86, Try.ntmps86
    go_wp2
    refine bodyPost_ret (results_cell_row rfl _ _ w.heap.size 106 _ _ _ rfl (heap_alloc_new _ _) hu rfl (by kernel_rfl)) rfl ?_
    exact ⟨_, rfl, by rw [nodeOf_none (.inl h0)]; exact k106_zero _, new_grows _ _⟩
  · have h1 : decide (n < 0) = false := decide_eq_false h0
    by_cases h2 : (x.length : Int) ≤ n
    · have h3 : decide ((x.length : Int) ≤ n) = true := decide_eq_true h2
      have A1 := cell_grows (new_grows w (.cells #[.int .i64 0, .int .i64 0, .int .i64 0, .slice none 0 0, .slice none 0 0] 106)) ha
      go_enter Try.func86, Try.ntmps86
      go_wp2
      refine bodyPost_ret (results_cell_row rfl _ _ w.heap.size 106 _ _ _ rfl (heap_alloc_new _ _) hu rfl (by kernel_rfl)) rfl ?_
      exact ⟨_, rfl, by rw [nodeOf_none (.inr h2)]; exact k106_zero _, new_grows _ _⟩
    · have h3 : decide ((x.length : Int) ≤ n) = false := decide_eq_false h2
      obtain ⟨ad, A3, c3, A4, c4, rfl, a0, a1, a2, a3, a4, l3, g3, l4, g4⟩ := at_T106 HC.out.2 n (by omega) (by omega)
      have hN : nodeOf x n = rd_T106 x n := by unfold nodeOf rd_T106; rw [if_neg h0]
      rw [hN]
      generalize rd_T106 x n = y at *
      have HY := Aside0.mk (And.intro l3 (And.intro g3 (And.intro l4 g4)))
      clear l3 g3 l4 g4
      have b0 : (0 : Int) ≤ n := by omega
      have b1 : n < (x.length : Int) := by omega
      have G0 := new_grows w (.cells #[.int .i64 0, .int .i64 0, .int .i64 0, .slice none 0 0, .slice none 0 0] 106)
      have A1 := cell_grows G0 ha
      replace a0 := cell_grows G0 a0
      replace a1 := cell_grows G0 a1
      replace a2 := cell_grows G0 a2
      replace a3 := cell_grows G0 a3
      replace a4 := cell_grows G0 a4
      have HG := Aside0.mk G0
      clear G0 ha
      go_enter Try.func86, Try.ntmps86
      go_wp2
      refine bodyPost_ret (results_cell_row rfl _ _ w.heap.size 106 _ _ _ rfl (heap_alloc_new _ _) hu rfl (by kernel_rfl)) rfl ?_
      exact ⟨_, rfl, k106.K_below (new_grows w _).below (k106_mk w y HY.out.1 HY.out.2.1 HY.out.2.2.1 HY.out.2.2.2), new_grows _ _⟩

/-- The nodes of a trie at an address. -/
def TrieAt (w : World) (a : Addr) (x : List S106) : Prop := ∃ A c, w.cell? a = some (.slice A x.length c) ∧ x.length ≤ c ∧ Kd.C k106 w A x.length x
theorem cell_below {W w2 : World} {a : Addr} {v : Value} (h : Go.RowKit.Below W.heap.size W w2) (hc : W.cell? a = some v) : w2.cell? a = some v := (h.cell (World.block_lt_of_cell? W a hc)).trans hc
theorem TrieAt.below {w w' : World} {a : Addr} {x : List S106} (h : TrieAt w a x) (hg : Go.RowKit.Below w.heap.size w w') : TrieAt w' a x := by
  obtain ⟨A, c, h1, h2, h3⟩ := h
  exact ⟨A, c, cell_below hg h1, h2, Kd.C_below h3 hg⟩
theorem TrieAt.grows {w w' : World} {a : Addr} {x : List S106} (h : TrieAt w a x) (hg : Grows w w') : TrieAt w' a x := by
  obtain ⟨A, c, h1, h2, h3⟩ := h
  exact ⟨A, c, cell_grows hg h1, h2, Kd.C_below h3 hg.below⟩
/-- Every node's edges rise. -/
def Good (x : List S106) : Prop := ∀ y ∈ x, Rising y.f3 ∧ y.f3.length < 4611686018427387904 ∧ y.f4.length ≤ 1000000
theorem good_at {x : List S106} (h : Good x) (n : Int) : Rising (nodeOf x n).f3 ∧ (nodeOf x n).f3.length < 4611686018427387904 ∧ (nodeOf x n).f4.length ≤ 1000000 := by
  have h0 : Rising z106.f3 ∧ z106.f3.length < 4611686018427387904 ∧ z106.f4.length ≤ 1000000 := ⟨List.Pairwise.nil, by decide, by decide⟩
  unfold nodeOf
  by_cases hn : n < 0
  · rw [if_pos hn]; exact h0
  · rw [if_neg hn, List.getD_eq_getElem?_getD]
    rcases Nat.lt_or_ge n.toNat x.length with hl | hl
    · rw [List.getElem?_eq_getElem hl]; exact h _ (List.getElem_mem _)
    · rw [List.getElem?_eq_none hl]; exact h0
theorem find' (a : Addr) (x : List S106) (n : Int) (w : World) (h : TrieAt w a x) :
    Calls Try.prog 86 #[.pointer (some a), .int .i64 n] w fun e w' => ∃ A3 c3 A4 c4, e = .returned (.agg #[.int .i64 (nodeOf x n).f0, .int .i64 (nodeOf x n).f1, .int .i64 (nodeOf x n).f2, .slice A3 (nodeOf x n).f3.length c3, .slice A4 (nodeOf x n).f4.length c4]) ∧
      (nodeOf x n).f3.length ≤ c3 ∧ Kd.C k122 w' A3 (nodeOf x n).f3.length (nodeOf x n).f3 ∧ (nodeOf x n).f4.length ≤ c4 ∧ Kd.C (Kd.int .i64) w' A4 (nodeOf x n).f4.length (nodeOf x n).f4 ∧ Grows w w' := by
  obtain ⟨A, c, h1, h2, h3⟩ := h
  refine (find_calls a A c x n w h1 h2 h3).mono ?_
  rintro e w' ⟨cs, rfl, hk, hg⟩
  obtain ⟨A3, c3, A4, c4, he, l3, g3, l4, g4⟩ := k106_open hk
  exact ⟨A3, c3, A4, c4, by rw [← Array.toList_inj.1 (show cs.toList = #[_, _, _, _, _].toList from he)], l3, g3, l4, g4, hg⟩

set_option maxHeartbeats 1000000 in
set_option maxRecDepth 100000 in
theorem depth_calls (a : Addr) (x : List S106) (n : Int) (w : World) (h : TrieAt w a x) :
    Calls Try.prog 41 #[.pointer (some a), .int .i64 n] w fun e w' => e = .returned (.int .i64 (nodeOf x n).f2) ∧ Grows w w' := by
  have HT := Aside0.mk h
  clear h
  have hf : ∀ (v0 v1 v2 v3 v4 : Value) (w : World), (Instr.field 106 (.agg #[v0, v1, v2, v3, v4]) 2).run Try.prog w = .ok v2 w := fun _ _ _ _ _ _ => by kernel_rfl
  go_enter Try.func41, Try.ntmps41
  go_wp2_with ((go_at_call 86; refine (find' _ x _ _ HT.out).mono ?_; rintro e w2 ⟨A3, c3, A4, c4, rfl, l3, g3, l4, g4, hg2⟩; have G2 := Aside0.mk hg2; clear hg2 l3 g3 l4 g4))
  go_ret
  exact ⟨rfl, G2.out⟩

theorem there_get {α : Type} {cf : α → Int} {l : List α} (h : there cf l = true) : ∃ h2 : ahead cf l < l.length, cf l[ahead cf l] = 0 := by
  unfold there at h
  rcases Nat.lt_or_ge (ahead cf l) l.length with hl | hl
  · rw [List.getElem?_eq_getElem hl] at h
    exact ⟨hl, by simpa using h⟩
  · rw [List.getElem?_eq_none hl] at h; cases h
/-- Where a node goes by a number. -/
def stepOf (x : List S106) (n c : Int) : Option Int := if has (nodeOf x n).f3 c = true then ((nodeOf x n).f3[place (nodeOf x n).f3 c]?).map (·.f1) else none

set_option maxHeartbeats 1000000 in
set_option maxRecDepth 100000 in
theorem step_calls (a : Addr) (x : List S106) (n t : Int) (w : World) (h : TrieAt w a x) (hG : Good x) :
    Calls Try.prog 84 #[.pointer (some a), .int .i64 n, .int .i64 t] w fun e w' => e = .returned (.tuple #[.int .i64 ((stepOf x n t).getD 0), .bool (stepOf x n t).isSome]) ∧ Grows w w' := by
  have HT := Aside0.mk h
  clear h
  obtain ⟨hr, hlen, -⟩ := good_at hG n
  have HR := Aside0.mk hr
  clear hr hG
  obtain ⟨b, hb⟩ : ∃ b, has (nodeOf x n).f3 t = b := ⟨_, rfl⟩
  cases b with
  | false =>
    have e1 : stepOf x n t = none := by unfold stepOf; rw [hb]; simp
    rw [e1]
    go_enter Try.func84, Try.ntmps84
    go_wp2_with (first
      | (go_at_call 86; refine (find' _ x _ _ HT.out).mono ?_; rintro e w2 ⟨A3, c3, A4, c4, rfl, l3, g3, l4, g4, hg2⟩; have G2 := Aside0.mk (And.intro g3 hg2); clear hg2 l3 g3 l4 g4)
      | (go_at_call 100; refine (place_calls _ A3 c3 (nodeOf x n).f3 t _ (by first | rfl | simp) (Kd.C_below G2.out.1 (new_grows _ _).below) hlen HR.out).mono ?_; rintro e w3 ⟨rfl, hg3⟩; have G3 := Aside0.mk hg3; clear hg3; rw [hb]))
    go_ret2
    exact ⟨rfl, (G2.out.2.trans (new_grows _ _)).trans G3.out⟩
  | true =>
    obtain ⟨hl, hz⟩ := there_get hb
    have hp : place (nodeOf x n).f3 t < (nodeOf x n).f3.length := hl
    have e1 : stepOf x n t = some (nodeOf x n).f3[place (nodeOf x n).f3 t].f1 := by unfold stepOf; rw [hb, List.getElem?_eq_getElem hp]; simp
    rw [e1]
    clear hl hz e1
    have p0 : (0 : Int) ≤ (place (nodeOf x n).f3 t : Int) := by omega
    have p1 : (place (nodeOf x n).f3 t : Int) < ((nodeOf x n).f3.length : Int) := by omega
    go_enter Try.func84, Try.ntmps84
    go_wp2_with (first
      | (go_at_call 86; refine (find' _ x _ _ HT.out).mono ?_; rintro e w2 ⟨A3, c3, A4, c4, rfl, l3, g3, l4, g4, hg2⟩; have G2 := Aside0.mk (And.intro g3 hg2); clear hg2 l3 g3 l4 g4)
      | (go_at_call 100
         refine (place_calls _ A3 c3 (nodeOf x n).f3 t _ (by first | rfl | simp) (Kd.C_below G2.out.1 (new_grows _ _).below) hlen HR.out).mono ?_
         rintro e w3 ⟨rfl, hg3⟩
         obtain ⟨ad, hA3, a0, a1⟩ := edge_at (Kd.C_below (Kd.C_below G2.out.1 (new_grows _ _).below) hg3.below) (place (nodeOf x n).f3 t) hp
         subst hA3
         have b3 := cell_grows hg3 (show (w2.alloc (.cells #[.int .i64 (nodeOf x n).f0, .int .i64 (nodeOf x n).f1, .int .i64 (nodeOf x n).f2, .slice (some ad) (nodeOf x n).f3.length c3, .slice A4 (nodeOf x n).f4.length c4] 106)).cell? ⟨w2.heap.size, 3, none⟩ = some (.slice (some ad) (nodeOf x n).f3.length c3) from by simp)
         have G3 := Aside0.mk hg3
         clear hg3
         rw [hb]))
    go_ret2
    exact ⟨rfl, (G2.out.2.trans (new_grows _ _)).trans G3.out⟩

set_option maxHeartbeats 1000000 in
set_option maxRecDepth 100000 in
theorem ends_calls (a : Addr) (x : List S106) (n : Int) (w : World) (h : TrieAt w a x) (hG : Good x) :
    Calls Try.prog 89 #[.pointer (some a), .int .i64 n] w fun e w' => ∃ v, e = .returned v ∧ Kd.R (Kd.int .i64) 3 w' w.heap.size (fun _ => True) v (nodeOf x n).f4 ∧ Go.RowKit.Below w.heap.size w w' := by
  have HT := Aside0.mk h
  have hle := (good_at hG n).2.2
  clear h hG
  have hf : ∀ (v0 v1 v2 v3 v4 : Value) (w : World), (Instr.field 106 (.agg #[v0, v1, v2, v3, v4]) 4).run Try.prog w = .ok v4 w := fun _ _ _ _ _ _ => by kernel_rfl
  go_enter Try.func89, Try.ntmps89
  go_wp2_with (first
    | (go_at_call 86; refine (find' _ x _ _ HT.out).mono ?_; rintro e w2 ⟨A3, c3, A4, c4, rfl, l3, g3, l4, g4, hg2⟩; have G2 := Aside0.mk (And.intro g4 hg2); clear hg2 l3 g3 l4 g4)
    | (go_at_call 87; refine (clone_ints A4 c4 _ _ G2.out.1 (by omega)).mono ?_; rintro e w3 ⟨v, rfl, hv, hb3⟩; have G3 := Aside0.mk (And.intro hv hb3); clear hv hb3))
  go_ret
  exact ⟨v, rfl, Kd.R_lower G3.out.1 G2.out.2.below.size, G2.out.2.below.trans (G3.out.2.mono G2.out.2.below.size)⟩
end Go.Proofs.Ytgfmplhpoblleaa.FailW
end
section
/- fail: there, Go, Fail, Out over links that are read. -/
namespace Go.Proofs.Ytgfmplhpoblleaa.FailW
open Go.RowKit Go.Proofs.YtgfmplhpoblleaaW.PrintWords Go.Proofs.YtgfmplhpoblleaaW.PrintLast Go.Proofs.YtgfmplhpoblleaaW.PrintMore Go.Proofs.Ytgfmplhpoblleaa.PRank Go.Proofs.Ytgfmplhpoblleaa.PFB Go.Proofs.Ytgfmplhpoblleaa.RankW Go.Proofs.Ytgfmplhpoblleaa.SortOwn Go.Proofs.Ytgfmplhpoblleaa
open Go.Proofs.Ytgfmplhpoblleaa.Cmps hiding dedup
set_option linter.unusedVariables false
set_option linter.unusedSimpArgs false

/-- A row of numbers behind a cell. -/
def IntsAt (w : World) (a : Addr) (l : List Int) : Prop := ∃ A c, w.cell? a = some (.slice A l.length c) ∧ l.length ≤ c ∧ Kd.C (Kd.int .i64) w A l.length l
theorem IntsAt.below {w w' : World} {a : Addr} {l : List Int} (h : IntsAt w a l) (hg : Go.RowKit.Below w.heap.size w w') : IntsAt w' a l := by
  obtain ⟨A, c, h1, h2, h3⟩ := h
  exact ⟨A, c, cell_below hg h1, h2, Kd.C_below h3 hg⟩
theorem IntsAt.grows {w w' : World} {a : Addr} {l : List Int} (h : IntsAt w a l) (hg : Grows w w') : IntsAt w' a l := by
  obtain ⟨A, c, h1, h2, h3⟩ := h
  exact ⟨A, c, cell_grows hg h1, h2, Kd.C_below h3 hg.below⟩
/-- Links: their trie's nodes, their failures, their outputs. -/
structure LinksAt (w : World) (p : Addr) (t : Addr) (x : List S106) (fl ol : List Int) : Prop where
  h0 : w.cell? p = some (.pointer (some t))
  h1 : IntsAt w ⟨p.block, p.off + 1, none⟩ fl
  h2 : IntsAt w ⟨p.block, p.off + 2, none⟩ ol
  tr : TrieAt w t x
theorem LinksAt.below {w w' : World} {p t : Addr} {x : List S106} {fl ol : List Int} (h : LinksAt w p t x fl ol) (hg : Go.RowKit.Below w.heap.size w w') : LinksAt w' p t x fl ol :=
  ⟨cell_below hg h.h0, h.h1.below hg, h.h2.below hg, h.tr.below hg⟩
theorem LinksAt.grows {w w' : World} {p t : Addr} {x : List S106} {fl ol : List Int} (h : LinksAt w p t x fl ol) (hg : Grows w w') : LinksAt w' p t x fl ol :=
  ⟨cell_grows hg h.h0, h.h1.grows hg, h.h2.grows hg, h.tr.grows hg⟩
theorem int_at {w : World} {A : Option Addr} {n : Nat} {l : List Int} (h : Kd.C (Kd.int .i64) w A n l) (i : Nat) (hi : i < l.length) : ∃ ad, A = some ad ∧ w.cell? (ad.add i) = some (.int .i64 l[i]) := by
  obtain ⟨ad, c, e, _, hK, hc⟩ := Kd.C_get h (0 : Int) (i : Int) (by omega) (by have := h.1; omega)
  obtain rfl : c = [_] := hK
  have := hc 0 _ rfl
  refine ⟨ad, e, ?_⟩
  have h1 : (Kd.int IntKind.i64).sz = 1 := rfl
  simpa [hi, h1] using this

/-- Is it a node's number? -/
def isNode (fl : List Int) (n : Int) : Bool := decide (0 ≤ n) && decide (n < (fl.length : Int))
set_option maxRecDepth 100000 in
theorem there_calls (p t : Addr) (x : List S106) (fl ol : List Int) (n : Int) (w : World) (h : LinksAt w p t x fl ol) :
    Calls Try.prog 83 #[.pointer (some p), .int .i64 n] w fun e w' => e = .returned (.bool (isNode fl n)) ∧ Grows w w' := by
  obtain ⟨A, c, a1, l1, g1⟩ := h.h1
  have HC := Aside0.mk (And.intro l1 g1)
  clear l1 g1 h
  unfold isNode
  by_cases h0 : 0 ≤ n
  · have e0 : decide (0 ≤ n) = true := decide_eq_true h0
    rw [e0, Bool.true_and]
    go_enter Try.func83, Try.ntmps83
    go_wp2
    go_ret
    exact ⟨rfl, Grows.refl _⟩
  · have e0 : decide (0 ≤ n) = false := decide_eq_false h0
    rw [e0, Bool.false_and]
    go_enter Try.func83, Try.ntmps83
    go_wp2
    go_ret
    exact ⟨rfl, Grows.refl _⟩

/-- What stands at a number. -/
def atI (l : List Int) (n : Int) : Int := l.getD n.toNat 0
theorem isNode_iff {fl : List Int} {n : Int} : isNode fl n = true ↔ 0 ≤ n ∧ n < (fl.length : Int) := by unfold isNode; simp
set_option maxRecDepth 100000 in
theorem fail_calls (p t : Addr) (x : List S106) (fl ol : List Int) (n : Int) (w : World) (h : LinksAt w p t x fl ol) :
    Calls Try.prog 43 #[.pointer (some p), .int .i64 n] w fun e w' => e = .returned (.int .i64 (if isNode fl n = true then atI fl n else 0)) ∧ Grows w w' := by
  have HL := Aside0.mk h
  clear h
  obtain ⟨b, hb⟩ : ∃ b, isNode fl n = b := ⟨_, rfl⟩
  cases b with
  | false =>
    rw [hb]
    go_enter Try.func43, Try.ntmps43
    go_wp2_with ((go_at_call 83; refine (there_calls p t x fl ol n _ HL.out).mono ?_; rintro e w2 ⟨rfl, hg2⟩; have G2 := Aside0.mk hg2; clear hg2; rw [hb]))
    go_ret
    exact ⟨rfl, G2.out⟩
  | true =>
    rw [hb]
    obtain ⟨n0, n1⟩ := isNode_iff.1 hb
    go_enter Try.func43, Try.ntmps43
    go_wp2_with ((go_at_call 83; refine (there_calls p t x fl ol n _ HL.out).mono ?_; rintro e w2 ⟨rfl, hg2⟩; obtain ⟨A, c, a1, l1, g1⟩ := (HL.out.grows hg2).h1; obtain ⟨ad, rfl, a0⟩ := int_at g1 n.toNat (by omega); have G2 := Aside0.mk (And.intro l1 (And.intro g1 hg2)); clear hg2 l1 g1; rw [hb]))
    go_ret
    exact ⟨by unfold atI; simp [show n.toNat < fl.length by omega], G2.out.2.2⟩
set_option maxRecDepth 100000 in
theorem out_calls (p t : Addr) (x : List S106) (fl ol : List Int) (n : Int) (w : World) (hlen : ol.length = fl.length) (h : LinksAt w p t x fl ol) :
    Calls Try.prog 45 #[.pointer (some p), .int .i64 n] w fun e w' => e = .returned (.int .i64 (if isNode fl n = true then atI ol n else -1)) ∧ Grows w w' := by
  have HL := Aside0.mk h
  clear h
  obtain ⟨b, hb⟩ : ∃ b, isNode fl n = b := ⟨_, rfl⟩
  cases b with
  | false =>
    rw [hb]
    go_enter Try.func45, Try.ntmps45
    go_wp2_with ((go_at_call 83; refine (there_calls p t x fl ol n _ HL.out).mono ?_; rintro e w2 ⟨rfl, hg2⟩; have G2 := Aside0.mk hg2; clear hg2; rw [hb]))
    go_ret
    exact ⟨rfl, G2.out⟩
  | true =>
    rw [hb]
    obtain ⟨n0, n1⟩ := isNode_iff.1 hb
    have n2 : n < (ol.length : Int) := by omega
    go_enter Try.func45, Try.ntmps45
    go_wp2_with ((go_at_call 83; refine (there_calls p t x fl ol n _ HL.out).mono ?_; rintro e w2 ⟨rfl, hg2⟩; obtain ⟨A, c, a1, l1, g1⟩ := (HL.out.grows hg2).h2; obtain ⟨ad, rfl, a0⟩ := int_at g1 n.toNat (by omega); have G2 := Aside0.mk (And.intro l1 (And.intro g1 hg2)); clear hg2 l1 g1; rw [hb]))
    go_ret
    exact ⟨by unfold atI; simp [show n.toNat < ol.length by omega], G2.out.2.2⟩

/-- The walk from a node by a number: where it ends, and by how many transitions. -/
def goF (x : List S106) (fl : List Int) (c : Int) : Nat → Int → Int → Option (Int × Int)
  | 0, _, _ => none
  | k + 1, n, taken => match stepOf x n c with
    | some q => some (q, taken)
    | none => if n = 0 then some (0, taken) else if isNode fl n = true then goF x fl c k (atI fl n) (taken + 1) else none
set_option maxHeartbeats 2000000 in
set_option maxRecDepth 100000 in
theorem go_calls (p t : Addr) (x : List S106) (fl ol : List Int) (n c : Int) (k : Nat) (r : Int × Int) (w : World) (h : LinksAt w p t x fl ol) (hG : Good x) (hk : k ≤ 1000000000000) (hr : isNode fl n = true → goF x fl c k n 1 = some r) (hr0 : isNode fl n = false → r = (0, 0)) :
    Calls Try.prog 39 #[.pointer (some p), .int .i64 n, .int .i64 c] w fun e w' => e = .returned (.tuple #[.int .i64 r.1, .int .i64 r.2]) ∧ Grows w w' := by
  have HL := Aside0.mk h
  have HGd := Aside0.mk hG
  clear h hG
  obtain ⟨b, hb⟩ : ∃ b, isNode fl n = b := ⟨_, rfl⟩
  cases b with
  | false =>
    obtain rfl := hr0 hb
    clear hr hr0
    go_enter Try.func39, Try.ntmps39
    go_wp2_with ((go_at_call 83; refine (there_calls p t x fl ol n _ HL.out).mono ?_; rintro e w2 ⟨rfl, hg2⟩; have G2 := Aside0.mk hg2; clear hg2; rw [hb]))
    go_ret2
    exact ⟨rfl, G2.out⟩
  | true =>
    have HR := Aside0.mk (hr hb)
    clear hr hr0
    go_enter Try.func39, Try.ntmps39
    go_wp2_with ((go_at_call 83; refine (there_calls p t x fl ol n _ HL.out).mono ?_; rintro e w2 ⟨rfl, hg2⟩; have G2 := Aside0.mk hg2; clear hg2; rw [hb]))
    go_loopw [1, 8] (fun nv tv wr => ∃ (m tk : Int) (k' : Nat), nv = .int .i64 m ∧ tv = .int .i64 tk ∧ goF x fl c k' m tk = some r ∧ 0 ≤ tk ∧ tk + k' ≤ 1 + k ∧ Grows w wr) (fun nv tv wr => 2000000000000 - (intOf tv).toNat)
    case atStart =>
      exact ⟨n, 1, k, rfl, rfl, HR.out, by omega, by omega, G2.out⟩
    case round =>
      obtain ⟨m, tk, k', rfl, rfl, hgo, ht0, ht, hg⟩ := hrel
      have HG := Aside0.mk hg
      clear hg
      cases k' with
      | zero => cases hgo
      | succ k' =>
        rw [goF] at hgo
        have hT := (HL.out.grows HG.out)
        have q0 := hT.h0
        have QT := Aside0.mk hT.tr
        cases hst : stepOf x m c with
        | some q =>
          rw [hst] at hgo
          obtain rfl := Option.some.inj hgo
          have HS := Aside0.mk hst
          clear hst hgo hT
          go_wp2_with ((go_at_call 84; refine (step_calls t x m c _ QT.out HGd.out).mono ?_; rintro e w3 ⟨rfl, hg3⟩; have G3 := Aside0.mk hg3; clear hg3; rw [HS.out, Option.getD_some, Option.isSome_some]))
          go_ret2
          exact ⟨rfl, HG.out.trans G3.out⟩
        | none =>
          rw [hst] at hgo
          simp only at hgo
          have HS := Aside0.mk hst
          clear hst
          by_cases hm : m = 0
          · rw [if_pos hm] at hgo
            obtain rfl := Option.some.inj hgo
            subst hm
            clear hgo hT
            go_wp2_with ((go_at_call 84; refine (step_calls t x _ c _ QT.out HGd.out).mono ?_; rintro e w3 ⟨rfl, hg3⟩; have G3 := Aside0.mk hg3; clear hg3; rw [HS.out, Option.getD_none, Option.isSome_none]))
            go_ret2
            exact ⟨rfl, HG.out.trans G3.out⟩
          · rw [if_neg hm] at hgo
            by_cases hn : isNode fl m = true
            · rw [if_pos hn] at hgo
              obtain ⟨m0, m1⟩ := isNode_iff.1 hn
              have HN := Aside0.mk hgo
              have QL := Aside0.mk hT
              have dm : decide (m = 0) = false := decide_eq_false hm
              clear hgo hT hn
              go_wp2_with ((go_at_call 84; refine (step_calls t x m c _ QT.out HGd.out).mono ?_; rintro e w3 ⟨rfl, hg3⟩; rw [HS.out, Option.getD_none, Option.isSome_none]; obtain ⟨A, cc, a1, l1, g1⟩ := (QL.out.grows hg3).h1; obtain ⟨ad, rfl, a0⟩ := int_at g1 m.toNat (by omega); have q3 := cell_grows hg3 q0; have G3 := Aside0.mk (And.intro l1 (And.intro g1 hg3)); clear hg3 l1 g1))
              refine ⟨⟨fl[m.toNat]'(by omega), tk + 1, k', rfl, by go_num, ?_, by omega, by omega, HG.out.trans G3.out.2.2⟩, by simp only [intOf]; omega⟩
              have e : atI fl m = fl[m.toNat]'(by omega) := by unfold atI; simp [show m.toNat < fl.length by omega]
              rw [← e]; exact HN.out
            · rw [if_neg hn] at hgo; cases hgo
end Go.Proofs.Ytgfmplhpoblleaa.FailW
end
section
/-
  DERIVED: THE SHELF's CONTRACTS AT THIS DUMP, IN PLAIN WORDS (tools/lay-plain.mjs out of 'YtgfmplhpoblleaaShelf2.lean', which tools/lay-shelf.mjs wrote): THE SAME DECLARATIONS UNDER THE SAME NAMES: 'import', 'namespace', 'open', 'def', 'theorem' AND NOTHING ELSE: no command of the shelf's: FOR A HAND-IN. Each laying: the table of numbers ('.._ren') and one theorem, a field a fact of the dump's own or the kernel's comparison; each contract: ONE APPLICATION.
-/
namespace Go.Proofs
open Go.Shelf
def Try.sortInts_ren : Go.Shelf.Ren := ⟨fun | 189 => 90 | 125 => 98 | 257 => 104 | 128 => 115 | 129 => 116 | 294 => 124 | 295 => 125 | 296 => 126 | 297 => 127 | 298 => 128 | 299 => 129 | 216 => 130 | 300 => 131 | 301 => 132 | 328 => 142 | 329 => 136 | 330 => 137 | 331 => 143 | 332 => 144 | 215 => 95 | 343 => 156 | n => n, fun | 28 => 23 | 3 => 3 | 46 => 118 | 0 => 0 | 51 => 139 | 53 => 141 | 4 => 4 | 183 => 133 | 182 => 132 | 131 => 27 | 5 => 5 | 9 => 9 | 218 => 156 | 222 => 160 | 228 => 169 | 229 => 55 | n => n, fun | n => n⟩
theorem Try.sortInts : Go.Proofs.Lays.n189 Try.prog Try.sortInts_ren := {
  mixed := by kernel_rfl
  f125 := Try.func98.trans (congrArg some (by kernel_rfl))
  f128 := Try.func115.trans (congrArg some (by kernel_rfl))
  f129 := Try.func116.trans (congrArg some (by kernel_rfl))
  f189 := Try.func90.trans (congrArg some (by kernel_rfl))
  f215 := Try.func95.trans (congrArg some (by kernel_rfl))
  f216 := Try.func130.trans (congrArg some (by kernel_rfl))
  f257 := Try.func104.trans (congrArg some (by kernel_rfl))
  f294 := Try.func124.trans (congrArg some (by kernel_rfl))
  f295 := Try.func125.trans (congrArg some (by kernel_rfl))
  f296 := Try.func126.trans (congrArg some (by kernel_rfl))
  f297 := Try.func127.trans (congrArg some (by kernel_rfl))
  f298 := Try.func128.trans (congrArg some (by kernel_rfl))
  f299 := Try.func129.trans (congrArg some (by kernel_rfl))
  f300 := Try.func131.trans (congrArg some (by kernel_rfl))
  f301 := Try.func132.trans (congrArg some (by kernel_rfl))
  f328 := Try.func142.trans (congrArg some (by kernel_rfl))
  f329 := Try.func136.trans (congrArg some (by kernel_rfl))
  f330 := Try.func137.trans (congrArg some (by kernel_rfl))
  f331 := Try.func143.trans (congrArg some (by kernel_rfl))
  f332 := Try.func144.trans (congrArg some (by kernel_rfl))
  f343 := Try.func156.trans (congrArg some (by kernel_rfl))
  t0 := Try.underlying0
  a0 := Try.isAgg0
  z0 := Try.sizeOf0
  v0 := Try.zeroValue0
  t3 := Try.underlying3
  a3 := Try.isAgg3
  z3 := Try.sizeOf3
  v3 := Try.zeroValue3
  t4 := Try.underlying4
  a4 := Try.isAgg4
  z4 := Try.sizeOf4
  v4 := Try.zeroValue4
  t5 := Try.underlying5
  a5 := Try.isAgg5
  z5 := Try.sizeOf5
  v5 := Try.zeroValue5
  t9 := Try.underlying9
  a9 := Try.isAgg9
  z9 := Try.sizeOf9
  v9 := Try.zeroValue9
  t28 := Try.underlying23
  a28 := Try.isAgg23
  z28 := Try.sizeOf23
  v28 := Try.zeroValue23
  t46 := Try.underlying118
  a46 := Try.isAgg118
  z46 := Try.sizeOf118
  v46 := Try.zeroValue118
  t51 := Try.underlying139
  a51 := Try.isAgg139
  z51 := Try.sizeOf139
  v51 := Try.zeroValue139
  t53 := Try.underlying141
  a53 := Try.isAgg141
  z53 := Try.sizeOf141
  v53 := Try.zeroValue141
  t131 := Try.underlying27
  a131 := Try.isAgg27
  z131 := Try.sizeOf27
  v131 := Try.zeroValue27
  t182 := Try.underlying132
  a182 := Try.isAgg132
  z182 := Try.sizeOf132
  v182 := Try.zeroValue132
  t183 := Try.underlying133
  a183 := Try.isAgg133
  z183 := Try.sizeOf133
  v183 := Try.zeroValue133
  t218 := Try.underlying156
  a218 := Try.isAgg156
  z218 := Try.sizeOf156
  v218 := Try.zeroValue156
  t222 := Try.underlying160
  a222 := Try.isAgg160
  z222 := Try.sizeOf160
  v222 := Try.zeroValue160
  t228 := Try.underlying169
  a228 := Try.isAgg169
  z228 := Try.sizeOf169
  v228 := Try.zeroValue169
  t229 := Try.underlying55
  a229 := Try.isAgg55
  z229 := Try.sizeOf55
  v229 := Try.zeroValue55 }
end Go.Proofs
end
section
/- slices.Sort over a row of numbers of the call's own; Patterns, Order. -/
namespace Go.Proofs.Ytgfmplhpoblleaa.FailW
open Go.RowKit Go.Shelf Go.Sort Go.Proofs Go.Proofs.YtgfmplhpoblleaaW.PrintWords Go.Proofs.YtgfmplhpoblleaaW.PrintLast Go.Proofs.YtgfmplhpoblleaaW.PrintMore Go.Proofs.Ytgfmplhpoblleaa.PRank Go.Proofs.Ytgfmplhpoblleaa.PFB Go.Proofs.Ytgfmplhpoblleaa.RankW Go.Proofs.Ytgfmplhpoblleaa.SortOwn Go.Proofs.Ytgfmplhpoblleaa
open Go.Proofs.Ytgfmplhpoblleaa.Cmps hiding dedup
set_option linter.unusedVariables false
set_option linter.unusedSimpArgs false

/-- Numbers in their order. -/
def inOrder (xs : List Int) : List Int := xs.mergeSort fun x y => decide (x ≤ y)
theorem sort_ints (v : Value) (xs : List Int) (base : Nat) (w : World) (hown : w.ownsRow base 3 1 v xs.length (encs (Value.int .i64) xs)) (hn : xs.length < 4611686018427387904) :
    Calls Try.prog 90 #[v] w fun e w' => e = .returned (.tuple #[]) ∧ w'.ownsRow base 3 1 v xs.length (encs (Value.int .i64) (inOrder xs)) ∧ w.grownBy w' v.ownBlock := by
  rcases hown.2 with ⟨rfl, h0⟩ | ⟨gb, cap, cur, rfl, hg, hh, hnc, hm, hsz, ht⟩
  · have hx : xs = [] := List.length_eq_zero_iff.1 h0
    subst hx
    exact (Any.slices_Sort_int_none Try.sortInts none 0 w).mono fun e w' ⟨he, hw⟩ => ⟨he, by rw [hw, show inOrder [] = [] by simp [inOrder]]; exact hown, by rw [hw]; exact ⟨rfl, rfl, rfl, Nat.le_refl _, fun _ _ _ => rfl⟩⟩
  · have hblk : gb < w.heap.size := (Array.getElem?_eq_some_iff.1 hh).1
    have hH : Holds (Value.int .i64) w gb 0 xs.toArray := by
      intro j hj
      have hj' : j < xs.length := by simpa using hj
      have hcell : cur[j]? = some (.int .i64 xs[j]) := by
        have := congrArg (fun l => l[j]?) ht
        simp only [List.getElem?_take, Nat.mul_one, if_pos hj', Array.getElem?_toList, encs, List.getElem?_map, List.getElem?_eq_getElem hj', Option.map_some] at this
        exact this
      constructor
      · rw [Nat.zero_add, World.cell?, hh]
        simp only [Option.isSome_none, Bool.false_eq_true, if_false]
        rw [hcell, getElem!_pos xs.toArray j hj]
        simp
      · simp [World.frozen?, hh]
    refine (Any.slices_Sort_int Try.sortInts gb 0 cap xs w hH hblk hn).mono ?_
    rintro e w' ⟨he, n, os, rfl⟩
    have hl : (inOrder xs).length = xs.length := List.length_mergeSort xs
    have hgrown : w.grownBy (grow (putRow (Value.int .i64) (Sort.ahead w n) gb 0 (inOrder xs).toArray) os) (some gb) := by
      refine ⟨rfl, rfl, rfl, ?_, fun b hb hne => ?_⟩
      · simp [grow, putRow, mapBlock, Sort.ahead]
      · rw [heap_grow_old _ _ (by simp [putRow, mapBlock, Sort.ahead]; exact hb)]
        simp only [putRow, mapBlock, Sort.ahead]
        rw [Array.getElem?_modify]
        have : ¬ gb = b := fun e => hne (by rw [e])
        simp [this]
    have hblock : (grow (putRow (Value.int .i64) (Sort.ahead w n) gb 0 (inOrder xs).toArray) os).heap[gb]? = some (.cells (putCells (Value.int .i64) 0 (inOrder xs).toArray cur) 3 (0, 0)) := by
      rw [heap_grow_old _ _ (by simp [putRow, mapBlock, Sort.ahead]; exact hblk)]
      simp only [putRow, mapBlock, Sort.ahead]
      rw [Array.getElem?_modify, if_pos rfl, hh]
      rfl
    refine ⟨he, ⟨by simp [encs, hl], .inr ⟨gb, cap, putCells (Value.int .i64) 0 (inOrder xs).toArray cur, rfl, hg, hblock, hnc, hm, by simpa [putCells] using hsz, ?_⟩⟩, hgrown⟩
    apply List.ext_getElem
    · simp [putCells, encs, hl]; omega
    · intro i h1 h2
      have h3 : i < (inOrder xs).length := by simpa [encs] using h2
      simp [putCells, encs, h3]

def failOf (fl : List Int) (n : Int) : Int := if isNode fl n = true then atI fl n else 0
def outOf (fl ol : List Int) (n : Int) : Int := if isNode fl n = true then atI ol n else -1
theorem fail_calls' (p t : Addr) (x : List S106) (fl ol : List Int) (n : Int) (w : World) (h : LinksAt w p t x fl ol) :
    Calls Try.prog 43 #[.pointer (some p), .int .i64 n] w fun e w' => e = .returned (.int .i64 (failOf fl n)) ∧ Grows w w' := fail_calls p t x fl ol n w h
theorem out_calls' (p t : Addr) (x : List S106) (fl ol : List Int) (n : Int) (w : World) (hlen : ol.length = fl.length) (h : LinksAt w p t x fl ol) :
    Calls Try.prog 45 #[.pointer (some p), .int .i64 n] w fun e w' => e = .returned (.int .i64 (outOf fl ol n)) ∧ Grows w w' := out_calls p t x fl ol n w hlen h
/-- The ends that are met on the way along the outputs. -/
def patF (x : List S106) (fl ol : List Int) : Nat → Int → List Int → Option (List Int)
  | 0, _, _ => none
  | k + 1, at_, acc => if at_ > 0 then patF x fl ol k (outOf fl ol (failOf fl at_)) (acc ++ (nodeOf x at_).f4) else some acc
set_option maxHeartbeats 4000000 in
set_option maxRecDepth 100000 in
theorem patterns_calls (p t : Addr) (x : List S106) (fl ol : List Int) (n : Int) (k : Nat) (r : List Int) (w : World) (h : LinksAt w p t x fl ol) (hG : Good x) (hlen : ol.length = fl.length) (hk : k ≤ 1000000) (hr : patF x fl ol k (outOf fl ol n) [] = some r) :
    Calls Try.prog 47 #[.pointer (some p), .int .i64 n] w fun e w' => ∃ v, e = .returned v ∧ Kd.R (Kd.int .i64) 3 w' w.heap.size (fun _ => True) v (inOrder r) ∧ Go.RowKit.Below w.heap.size w w' := by
  have HL := Aside0.mk h
  have HGd := Aside0.mk hG
  have HR := Aside0.mk hr
  clear h hG hr
  go_enter Try.func47, Try.ntmps47
  go_wp2_with ((go_at_call 45; refine (out_calls' p t x fl ol n _ hlen HL.out).mono ?_; rintro e w2 ⟨rfl, hg2⟩; have G2 := Aside0.mk hg2; clear hg2))
  go_loopg [5, 6] k (fun kq ov av wr => ∃ (m : Int) (acc : List Int), av = .int .i64 m ∧ patF x fl ol kq m acc = some r ∧ kq ≤ k ∧ acc.length + kq * 1000000 ≤ k * 1000000 ∧ Kd.R (Kd.int .i64) 3 wr w.heap.size (fun _ => True) ov acc ∧ Go.RowKit.Below w.heap.size w wr)
  case atStart =>
    exact ⟨outOf fl ol n, [], rfl, HR.out, Nat.le_refl _, by simp, Kd.R_nil _ _ _ _ _, G2.out.below⟩
  case round =>
    obtain ⟨m, acc, hv6, hp, hkk, hac, ho, hb⟩ := hrel
    subst hv6
    cases gk with
    | zero => cases hp
    | succ gk =>
      rw [patF] at hp
      by_cases hm : m > 0
      · rw [if_pos hm] at hp
        have HP := Aside0.mk hp
        have HO := Aside0.mk ho
        have HB := Aside0.mk hb
        have HT := Aside0.mk (HL.out.below hb)
        have q0 := HT.out.h0
        have hle := (good_at HGd.out m).2.2
        have dm : decide (0 < m) = true := decide_eq_true hm
        have hac2 : (acc.length + (nodeOf x m).f4.length) * 8 ≤ 140737488355328 := by omega
        obtain ⟨A5, c5, e5⟩ := Kd.R_slice HO.out
        subst e5
        clear hp ho hb
        go_wp2_with (first
          | (go_at_call 89; refine (ends_calls t x m _ HT.out.tr HGd.out).mono ?_; rintro e w3 ⟨v3, rfl, hv3, hb3⟩; obtain ⟨A3, c3, rfl, hl3, hC3⟩ := Kd.R_reads hv3; have B3 := Aside0.mk (HB.out.trans (hb3.mono HB.out.size)); have O3 := Aside0.mk (Kd.R_below HO.out hb3); have C3 := Aside0.mk hC3; clear hv3 hb3 hC3 hl3)
          | ((with_reducible refine gate_dst (N := 24) rfl ?_); refine Kd.R_append_row (Value.int .i64) (0 : Int) (h1 := fun _ => rfl) (w0 := w) w.heap.size rfl (.tmp 17) (.tmp 23) 23 3 (.int .i64 0) 8 rfl Try.underlying23 i64_info rfl (by decide) _ acc (nodeOf x m).f4 A3 _ c3 (fun _ => True) rfl rfl (fun _ _ => trivial) O3.out C3.out B3.out (below_size B3.out) hac2 ?_; intro v4 w4 ho4 hb4 hg4 hn4; have O4 := Aside0.mk ho4; have B4 := Aside0.mk hb4; clear ho4 hb4 hg4 hn4)
          | (go_at_call 43; refine (fail_calls' p t x fl ol m _ (HL.out.below B4.out)).mono ?_; rintro e w5 ⟨rfl, hg5⟩; have G5 := Aside0.mk hg5; clear hg5)
          | (go_at_call 45; refine (out_calls' p t x fl ol _ _ hlen ((HL.out.below B4.out).grows G5.out)).mono ?_; rintro e w6 ⟨rfl, hg6⟩; have G6 := Aside0.mk hg6; clear hg6))
        go_roundg gk
        case measure => omega
        case rel =>
          refine ⟨outOf fl ol (failOf fl m), acc ++ (nodeOf x m).f4, rfl, HP.out, by omega, by rw [List.length_append]; omega, ?_, ?_⟩
          · exact Kd.R_below (Kd.R_below O4.out G5.out.below) G6.out.below
          · exact (B4.out.trans (G5.out.below.mono B4.out.size)).trans (G6.out.below.mono (Nat.le_trans B4.out.size G5.out.below.size))
      · rw [if_neg hm] at hp
        obtain rfl := Option.some.inj hp
        have HO := Aside0.mk ho
        have HB := Aside0.mk hb
        have dm : decide (0 < m) = false := decide_eq_false hm
        have hlen2 : acc.length < 4611686018427387904 := by omega
        clear hp ho hb
        go_wp2_with ((go_at_call 90; refine (sort_ints _ acc w.heap.size _ (Kd.own_of_R HO.out) hlen2).mono ?_; rintro e w3 ⟨rfl, ho3, hg3⟩; have O3 := Aside0.mk ho3; have G3 := Aside0.mk hg3; clear ho3 hg3))
        go_ret
        have hl : (inOrder acc).length = acc.length := List.length_mergeSort acc
        refine ⟨_, rfl, Kd.R_of_own (by rw [hl]; exact O3.out) (fun _ _ => trivial), ?_⟩
        exact ⟨G3.out.os.trans HB.out.os, G3.out.tape.trans HB.out.tape, G3.out.output.trans HB.out.output, Nat.le_trans HB.out.size G3.out.size, fun b hb => (G3.out.block b (Nat.lt_of_lt_of_le hb HB.out.size) (fun e => by have := own_base (Kd.own_of_R HO.out) b e.symm; omega)).trans (HB.out.block b hb)⟩

end Go.Proofs.Ytgfmplhpoblleaa.FailW
end
section
/- slices.Insert of one edge into a row of edges of the call's own. -/
namespace Go.Proofs.Ytgfmplhpoblleaa.FailW
open Go.RowKit Go.Shelf Go.Lib Go.Proofs Go.Proofs.YtgfmplhpoblleaaW.PrintWords Go.Proofs.YtgfmplhpoblleaaW.PrintLast Go.Proofs.YtgfmplhpoblleaaW.PrintMore Go.Proofs.Ytgfmplhpoblleaa.PRank Go.Proofs.Ytgfmplhpoblleaa.PFB Go.Proofs.Ytgfmplhpoblleaa.RankW Go.Proofs.Ytgfmplhpoblleaa.SortOwn Go.Proofs.Ytgfmplhpoblleaa
open Go.Proofs.Ytgfmplhpoblleaa.Cmps hiding dedup
set_option linter.unusedVariables false
set_option linter.unusedSimpArgs false

/-- Edges' cells. -/
def ecells (l : List S122) : List Value := l.flatMap fun e => [.int .i64 e.f0, .int .i64 e.f1]
theorem info122 : (Try.prog.info? 122).map (fun i => (i.zero, i.size, i.bytes)) = some (some (.agg #[.int .i64 0, .int .i64 0]), 2, 16) := by kernel_rfl

set_option maxHeartbeats 4000000 in
set_option maxRecDepth 100000 in
/-- At the end. -/
theorem insert_end (v : Value) (l : List S122) (y : S122) (vb : Nat) (base : Nat) (w : World) (hown : Kd.R k122 122 w base (fun _ => True) v l) (hb : base ≤ w.heap.size) (hn : (l.length + 1) * 16 ≤ 140737488355328)
    (hbox : Kd.C k122 w (some ⟨vb, 0, none⟩) 1 [y]) :
    Calls Try.prog 101 #[v, .int .i64 l.length, .slice (some ⟨vb, 0, none⟩) 1 1] w fun e w' => ∃ v', e = .returned v' ∧ Kd.R k122 122 w' base (fun _ => True) v' (l ++ [y]) ∧ w.grownBy w' v.ownBlock ∧ (v'.ownBlock = v.ownBlock ∨ ∃ b, v'.ownBlock = some b ∧ w.heap.size ≤ b) := by
  obtain ⟨A, c, rfl⟩ := Kd.R_slice hown
  have HO := Aside0.mk hown
  have HX := Aside0.mk hbox
  have hc : l.length ≤ c := by obtain ⟨A', c', he, hl, _⟩ := Kd.R_reads hown; injection he with _ _ h3; omega
  clear hown hbox
  have hKM : ∀ (x : S122) cs, k122.K w x cs → k122.M w base (fun _ => True ∧ False) x cs := fun x cs h => by obtain rfl := k122_open h; exact k122_mkM _ _ _ _
  have HK := Aside0.mk hKM
  clear hKM
  by_cases hcl : c = l.length
  · subst hcl
    go_enter Try.func101, Try.ntmps101
    go_wp2_with ((with_reducible refine gate_dst (N := 25) rfl ?_); refine Kd.R_append_rows k122 (Rr := k122.K w) (w0 := w) base rfl (.tmp 23) (.tmp 24) 104 122 (.agg #[.int .i64 0, .int .i64 0]) 16 rfl Try.underlying104 info122 rfl (show 0 < 2 by decide) (by decide) _ l [y] (some ⟨vb, 0, none⟩) 1 1 (fun _ => True) (fun _ => True ∧ False) rfl rfl HO.out HX.out HK.out (fun _ h => h.2.elim) (fun _ _ => trivial) (Below.refl _ _) hb hn ?_; intro v4 w4 ho4 hb4 hg4 hn4; have O4 := Aside0.mk (And.intro ho4 (And.intro hg4 hn4)); clear ho4 hb4 hg4 hn4)
    go_ret
    exact ⟨v4, rfl, O4.out.1, O4.out.2.1, O4.out.2.2⟩
  · go_enter Try.func101, Try.ntmps101
    go_wp2_with ((with_reducible refine gate_dst (N := 25) rfl ?_); refine Kd.R_append_rows k122 (Rr := k122.K w) (w0 := w) base rfl (.tmp 23) (.tmp 24) 104 122 (.agg #[.int .i64 0, .int .i64 0]) 16 rfl Try.underlying104 info122 rfl (show 0 < 2 by decide) (by decide) _ l [y] (some ⟨vb, 0, none⟩) 1 1 (fun _ => True) (fun _ => True ∧ False) rfl rfl HO.out HX.out HK.out (fun _ h => h.2.elim) (fun _ _ => trivial) (Below.refl _ _) hb hn ?_; intro v4 w4 ho4 hb4 hg4 hn4; have O4 := Aside0.mk (And.intro ho4 (And.intro hg4 hn4)); clear ho4 hb4 hg4 hn4)
    go_ret
    exact ⟨v4, rfl, O4.out.1, O4.out.2.1, O4.out.2.2⟩

/-- copy, at elements of k cells. -/
theorem run_copy_k {P : Program} (k : Nat) (w : World) (dT sT ty elem : TypeId) (b o dLen dCap : Nat) (a : Addr) (sLen sCap : Nat) (cs : List Value)
    (hu : P.underlying dT = some (.slice elem)) (hs : (P.info? elem).map (·.size) = some k) (hn : cs.length = Nat.min sLen dLen * k)
    (hsrc : ∀ j v, cs[j]? = some v → w.cell? (a.add j) = some v) (hc : ∀ j, j < cs.length → (w.cell? ⟨b, o + j, none⟩).isSome = true) (hf : ∀ j, j < cs.length → w.frozen? ⟨b, o + j, none⟩ = false) (h1 : ∀ v ∈ cs, v.oneCell' = true) :
    (Builtin.copy_ #[dT, sT] ty #[.slice (some ⟨b, o, none⟩) dLen dCap, .slice (some a) sLen sCap]).run P w = .ok (goInt (Nat.min sLen dLen)) (w.setCells b o cs) := by
  have hl := run_loadCells_list (P := P) w a cs hsrc
  have hst := run_storeCells_cells (P := P) b o cs 0 w (by simpa using hc) (by simpa using hf) h1
  cases hq : P.info? elem with
  | none => simp [hq] at hs
  | some i =>
    have hi : i.size = k := by simpa [hq] using hs
    simp [Builtin.copy_, run_underlying hu, Builtin.lenOf, Builtin.firstCells, sizeOf, typeInfo, hq, hi, ← hn, hl, hst]

set_option maxHeartbeats 4000000 in
set_option maxRecDepth 100000 in
/-- In the midst, where there is room. -/
theorem insert_shift (g n c i vb : Nat) (cs vs : List Value) (w : World) (hi : i < n) (hroom : n + 1 ≤ c) (hc63 : c ≤ 9223372036854775807) (hvb : vb ≠ g)
    (hcl : cs.length = n * 2) (hvl : vs.length = 2)
    (hcs : ∀ j v, cs[j]? = some v → w.cell? ⟨g, j, none⟩ = some v) (hsp : ∀ j, j < (n + 1) * 2 → (w.cell? ⟨g, j, none⟩).isSome = true) (hfz : ∀ j, w.frozen? ⟨g, j, none⟩ = false)
    (hvs : ∀ j v, vs[j]? = some v → w.cell? ⟨vb, j, none⟩ = some v) (h1c : ∀ v ∈ cs, v.oneCell' = true) (h1v : ∀ v ∈ vs, v.oneCell' = true)
    (tA tB : TypeId) (kA kB : Nat) (hsa : w.shape? vb = some (tA, kA)) (hsb : w.shape? g = some (tB, kB)) (hkB : kB ≠ 0) (hfa : w.frozen? ⟨vb, 0, none⟩ = false) (hfe : w.frozen? ⟨vb, kA, none⟩ = false) :
    Calls Try.prog 101 #[.slice (some ⟨g, 0, none⟩) n c, .int .i64 i, .slice (some ⟨vb, 0, none⟩) 1 1] w fun e w' =>
      e = .returned (.slice (some ⟨g, 0, none⟩) (n + 1) c) ∧ w' = (w.drew.setCells g ((i + 1) * 2) (cs.drop (i * 2))).setCells g (i * 2) vs := by
  have hz2 : ¬ ((i : Int) = (n : Int)) := by omega
  have hdl : (cs.drop (i * 2)).length = (n - i) * 2 := by rw [List.length_drop, hcl]; omega
  have hov : ∀ lb cb, (callFunc 119 #[.slice (some ⟨vb, 0, none⟩) 1 1, .slice (some ⟨g, (i + 1) * 2, none⟩) lb cb]).run Try.prog w = .ok (.value (.bool false)) w := fun lb cb => by
    rw [run_callFunc_extern Try.func119 (by kernel_rfl) (by kernel_rfl) (by kernel_rfl) (e := Extern.SlicesOverlaps.overlaps #[104, 104] #[4]) (by kernel_rfl),
      Lib.run_overlaps_apart w 104 4 122 Try.underlying104 2 (fun _ => by kernel_rfl) ⟨vb, 0, none⟩ ⟨g, (i + 1) * 2, none⟩ 1 1 lb cb hvb tA tB kA kB hsa hsb hkB hfa hfe]
    rfl
  have mixed : Try.prog.follows Departure.mixedOrders = true := by kernel_rfl
  have hsz : (Try.prog.info? 122).map (·.size) = some 2 := by kernel_rfl
  have hw1 : IntKind.i64.wrap ((i : Int) + 1) = (i : Int) + 1 := by rw [IntKind.wrap_i64]; omega
  have hw2 : IntKind.i64.wrap ((n : Int) + 1) = (n : Int) + 1 := by rw [IntKind.wrap_i64]; omega
  have htn : ((i : Int) + 1).toNat = i + 1 := by omega
  have htn2 : ((n : Int) + 1).toNat = n + 1 := by omega
  have hin : i ≤ n := by omega
  have hb1 : (0 : Int) ≤ (i : Int) + 1 := by omega
  have hb2 : ¬ (c = i + 1) := by omega
  have hb3 : (i : Int) ≤ (n : Int) + 1 := by omega
  have hb4 : ¬ (c = i) := by omega
  have hcp1 : ∀ ty dc sc, (Builtin.copy_ #[104, 104] ty #[.slice (some ⟨g, (i + 1) * 2, none⟩) (n - i) dc, .slice (some ⟨g, i * 2, none⟩) (n + 1 - i) sc]).run Try.prog w.drew = .ok (goInt (Nat.min (n + 1 - i) (n - i))) (w.drew.setCells g ((i + 1) * 2) (cs.drop (i * 2))) := fun ty dc sc =>
    run_copy_k 2 w.drew _ _ ty 122 g ((i + 1) * 2) (n - i) dc ⟨g, i * 2, none⟩ (n + 1 - i) sc (cs.drop (i * 2)) Try.underlying104 hsz (by rw [hdl]; simp only [Nat.min_def]; split <;> omega)
      (fun j v hj => by rw [Addr.add_lit]; exact hcs (i * 2 + j) v (by rwa [List.getElem?_drop] at hj))
      (fun j hj => hsp _ (by omega)) (fun j hj => hfz _) (fun v hv => h1c v (List.mem_of_mem_drop hv))
  obtain ⟨W1, hW1⟩ : ∃ W1, W1 = w.drew.setCells g ((i + 1) * 2) (cs.drop (i * 2)) := ⟨_, rfl⟩
  have hsp1 : ∀ k, k < (n + 1) * 2 → (W1.cell? ⟨g, k, none⟩).isSome = true := fun k hk => by
    rw [hW1]
    exact isSome_setCells g (cs.drop (i * 2)) ((i + 1) * 2) w.drew (fun j hj => hsp _ (by omega)) _ (hsp k hk)
  have hcp2 : ∀ (W : World), (∀ x, W.cell? x = W1.cell? x) → (∀ x, W.frozen? x = W1.frozen? x) → ∀ ty dc, (Builtin.copy_ #[104, 104] ty #[.slice (some ⟨g, i * 2, none⟩) (n + 1 - i) dc, .slice (some ⟨vb, 0, none⟩) 1 1]).run Try.prog W = .ok (goInt (Nat.min 1 (n + 1 - i))) (W.setCells g (i * 2) vs) := fun W hWc hWf ty dc =>
    run_copy_k 2 W _ _ ty 122 g (i * 2) (n + 1 - i) dc ⟨vb, 0, none⟩ 1 1 vs Try.underlying104 hsz (by rw [hvl]; simp only [Nat.min_def]; split <;> omega)
      (fun j v hj => by
        rw [Addr.add_lit, hWc, hW1, World.cell?_setCells_out g _ _ _ _ (fun h _ => absurd h hvb), Nat.zero_add]
        exact hvs j v hj)
      (fun j hj => by rw [hWc]; exact hsp1 _ (by omega)) (fun j hj => by rw [hWf, hW1, World.frozen?_setCells]; exact hfz _) h1v
  rw [← hW1] at hcp1
  go_enter Try.func101, Try.ntmps101
  go_wp2_with (simp only [hov])
  go_region_law_o (refine step_copy_runI rfl _ _ 104 104 rfl _ _ (by simp [Act.eval, Act.put]) (by simp [Act.eval, Act.put]) (hcp1 _ _ _) ?_)
  go_wp2_with (at_builtin; refine wpList_copy_runI _ rfl _ _ 104 104 rfl _ _ rfl rfl (hcp2 _ (fun _ => rfl) (fun _ => rfl) _ _) ?_)
  go_ret
  first | exact ⟨rfl, rfl⟩ | exact ⟨rfl, by rw [hW1]⟩

/-- The cells of a new row: what stood ahead, then zeros. -/
def newRow (cs : List Value) (m z : Nat) : Array Value := cs.toArray ++ Builtin.zeroCells (Value.agg #[.int .i64 0, .int .i64 0]).cells m ++ Builtin.zeroCells (Value.agg #[.int .i64 0, .int .i64 0]).cells z
set_option maxHeartbeats 4000000 in
set_option maxRecDepth 100000 in
/-- In the midst, where there is no room: a new row. -/
theorem insert_grow (g n c i vb : Nat) (cs vs : List Value) (w : World) (hi : i < n) (hnc : n ≤ c) (hroom : c < n + 1) (hbig : (n + 1) * 16 ≤ 140737488355328)
    (hcl : cs.length = n * 2) (hvl : vs.length = 2)
    (hcs : ∀ j v, cs[j]? = some v → w.cell? ⟨g, j, none⟩ = some v)
    (hvs : ∀ j v, vs[j]? = some v → w.cell? ⟨vb, j, none⟩ = some v) (h1c : ∀ v ∈ cs, v.oneCell' = true) (h1v : ∀ v ∈ vs, v.oneCell' = true) :
    Calls Try.prog 101 #[.slice (some ⟨g, 0, none⟩) n c, .int .i64 i, .slice (some ⟨vb, 0, none⟩) 1 1] w fun e w' =>
      e = .returned (.slice (some ⟨w.heap.size, 0, none⟩) (n + 1) (grownCap w (n + 1) c 122)) ∧
      w' = (((w.alloc (.cells (newRow (cs.take (i * 2)) (n + 1 - i) (grownCap w (n + 1) c 122 - (n + 1))) 122)).drew.setCells w.heap.size (i * 2) vs).drew).setCells w.heap.size ((i + 1) * 2) (cs.drop (i * 2)) := by
  have mixed : Try.prog.follows Departure.mixedOrders = true := by kernel_rfl
  obtain ⟨i0, hi0, hz0, hzs, hzb⟩ := info_parts info122
  have hz2 : ¬ ((i : Int) = (n : Int)) := by omega
  have hz3 : (c : Int) < (n : Int) + 1 := by omega
  have hsz : (Try.prog.info? 122).map (·.size) = some 2 := by kernel_rfl
  have hbw : g < w.heap.size := block_lt_of_cell (hcs 0 _ (List.getElem?_eq_getElem (by omega)))
  have hvw : vb < w.heap.size := block_lt_of_cell (hvs 0 _ (List.getElem?_eq_getElem (by omega)))
  have hkk : (n : Int) + 1 - (i : Int) = ((n + 1 - i : Nat) : Int) := by omega
  have hik : i + (n + 1 - i) = n + 1 := by omega
  have hold : (Builtin.firstCells i0.size i (.slice (some ⟨g, 0, none⟩) i c)).run Try.prog w.drew = .ok (cs.take (i * 2)).toArray w.drew := by
    rw [hzs]
    exact run_firstCells_some w.drew 2 i ⟨g, 0, none⟩ i c (cs.take (i * 2)) (by rw [List.length_take]; omega) (fun j v hj => by
      rw [Addr.add_lit, Nat.zero_add]
      rw [List.getElem?_take] at hj
      split at hj
      · exact hcs j v hj
      · cases hj)
  have hrz : ∀ ty, (Builtin.append_ #[104, 3] ty #[.slice (some ⟨g, 0, none⟩) i c, .int .i64 ((n : Int) + 1 - (i : Int))]).run Try.prog w =
      .ok (.slice (some ⟨w.heap.size, 0, none⟩) (n + 1) (grownCap w (n + 1) c 122)) (w.drew.alloc (.cells (newRow (cs.take (i * 2)) (n + 1 - i) (grownCap w (n + 1) c 122 - (n + 1))) 122)) := fun ty => by
    have h := Lib.run_append_grow_zeros w 104 3 ty 122 i0 _ .i64 .i64 Try.underlying104 Try.underlying3 hi0 hz0 (some ⟨g, 0, none⟩) i c (cs.take (i * 2)) hold (n + 1 - i) (by omega) (by omega) (by omega) (by omega) (by rw [hzb]; omega) (by rw [hzb, hik]; exact growslice_fits hroom hbig)
    rw [hik] at h
    rw [hkk]
    exact h
  obtain ⟨G, hG⟩ : ∃ G, G = grownCap w (n + 1) c 122 := ⟨_, rfl⟩
  obtain ⟨ROW, hROW⟩ : ∃ ROW : Array Value, ROW = newRow (cs.take (i * 2)) (n + 1 - i) (G - (n + 1)) := ⟨_, rfl⟩
  rw [← hG] at hrz ⊢
  rw [← hROW] at hrz ⊢
  have hRl : (n + 1) * 2 ≤ ROW.size := by
    rw [hROW]
    simp [newRow, Builtin.zeroCells, Value.cells]
    omega
  obtain ⟨W1, hW1⟩ : ∃ W1, W1 = w.drew.alloc (.cells ROW 122) := ⟨_, rfl⟩
  rw [← hW1] at hrz
  have hN : ∀ j, j < (n + 1) * 2 → (W1.cell? ⟨w.heap.size, j, none⟩).isSome = true := fun j hj => by
    rw [hW1, World.cell?_alloc_at (w := w.drew) ROW _ w.heap.size j rfl, Array.getElem?_eq_getElem (by omega)]; rfl
  have hNf : ∀ j, W1.frozen? ⟨w.heap.size, j, none⟩ = false := fun j => by rw [hW1]; exact World.frozen?_alloc_at (w := w.drew) ROW _ w.heap.size j rfl
  have hOb : ∀ j v, w.cell? ⟨g, j, none⟩ = some v → W1.cell? ⟨g, j, none⟩ = some v := fun j v h => by rw [hW1, World.cell?_alloc_past (w := w.drew) _ g j hbw]; exact h
  have hOv : ∀ j v, w.cell? ⟨vb, j, none⟩ = some v → W1.cell? ⟨vb, j, none⟩ = some v := fun j v h => by rw [hW1, World.cell?_alloc_past (w := w.drew) _ vb j hvw]; exact h
  have hcpA : ∀ (W : World), (∀ x, W.cell? x = W1.cell? x) → (∀ x, W.frozen? x = W1.frozen? x) → ∀ ty dc, (Builtin.copy_ #[104, 104] ty #[.slice (some ⟨w.heap.size, i * 2, none⟩) (n + 1 - i) dc, .slice (some ⟨vb, 0, none⟩) 1 1]).run Try.prog W = .ok (goInt (Nat.min 1 (n + 1 - i))) (W.setCells w.heap.size (i * 2) vs) := fun W hWc hWf ty dc =>
    run_copy_k 2 W _ _ ty 122 w.heap.size (i * 2) (n + 1 - i) dc ⟨vb, 0, none⟩ 1 1 vs Try.underlying104 hsz (by rw [hvl]; simp only [Nat.min_def]; split <;> omega)
      (fun j v hj => by rw [Addr.add_lit, hWc, Nat.zero_add]; exact hOv _ v (hvs j v hj))
      (fun j hj => by rw [hWc]; exact hN _ (by omega)) (fun j hj => by rw [hWf]; exact hNf _) h1v
  have hGn : n + 1 ≤ G := by rw [hG]; exact grownCap_ge w _ _ _
  have hG63 : G ≤ 9223372036854775807 := by
    have := grownCap_le_maxLen w (n + 1) c 122 (by unfold maxLen; omega)
    rw [← hG] at this
    unfold maxLen at this
    omega
  have hGi : ¬ (G = i) := by omega
  have hGim : ¬ (G = i + 1) := by omega
  have hci : ¬ (c = i) := by omega
  have hbN : g ≠ w.heap.size := by omega
  have hdl : (cs.drop (i * 2)).length = (n - i) * 2 := by rw [List.length_drop, hcl]; omega
  have hcpB : ∀ (W : World), (∀ x, W.cell? x = (W1.setCells w.heap.size (i * 2) vs).cell? x) → (∀ x, W.frozen? x = (W1.setCells w.heap.size (i * 2) vs).frozen? x) → ∀ ty dc sc, (Builtin.copy_ #[104, 104] ty #[.slice (some ⟨w.heap.size, (i + 1) * 2, none⟩) (n - i) dc, .slice (some ⟨g, i * 2, none⟩) (n - i) sc]).run Try.prog W = .ok (goInt (Nat.min (n - i) (n - i))) (W.setCells w.heap.size ((i + 1) * 2) (cs.drop (i * 2))) := fun W hWc hWf ty dc sc =>
    run_copy_k 2 W _ _ ty 122 w.heap.size ((i + 1) * 2) (n - i) dc ⟨g, i * 2, none⟩ (n - i) sc (cs.drop (i * 2)) Try.underlying104 hsz (by rw [hdl]; simp only [Nat.min_def]; split <;> omega)
      (fun j v hj => by
        rw [Addr.add_lit, hWc, World.cell?_setCells_out _ _ _ _ _ (fun h _ => absurd h hbN)]
        exact hOb _ v (hcs (i * 2 + j) v (by rwa [List.getElem?_drop] at hj)))
      (fun j hj => by rw [hWc]; exact isSome_setCells w.heap.size vs (i * 2) W1 (fun t ht => hN _ (by omega)) _ (hN _ (by omega)))
      (fun j hj => by rw [hWf, World.frozen?_setCells]; exact hNf _) (fun v hv => h1c v (List.mem_of_mem_drop hv))
  subst hW1
  have hE1 : ∀ x, ((w.alloc (.cells ROW 122)).drew).cell? x = (w.drew.alloc (.cells ROW 122)).cell? x := fun x => rfl
  have hE2 : ∀ x, ((w.alloc (.cells ROW 122)).drew).frozen? x = (w.drew.alloc (.cells ROW 122)).frozen? x := fun x => rfl
  have hF1 : ∀ x, (((w.alloc (.cells ROW 122)).drew.setCells w.heap.size (i * 2) vs).drew).cell? x = ((w.drew.alloc (.cells ROW 122)).setCells w.heap.size (i * 2) vs).cell? x := fun x => rfl
  have hF2 : ∀ x, (((w.alloc (.cells ROW 122)).drew.setCells w.heap.size (i * 2) vs).drew).frozen? x = ((w.drew.alloc (.cells ROW 122)).setCells w.heap.size (i * 2) vs).frozen? x := fun x => rfl
  have hw1 : IntKind.i64.wrap ((i : Int) + 1) = (i : Int) + 1 := by rw [IntKind.wrap_i64]; omega
  have hb1 : (0 : Int) ≤ (i : Int) + 1 := by omega
  have hin : i ≤ n := by omega
  have htn : ((i : Int) + 1).toNat = i + 1 := by omega
  have hb3 : (i : Int) ≤ (n : Int) := by omega
  clear hkk hik hold hROW hG hRl
  go_enter Try.func101, Try.ntmps101
  go_wp2_with (first
    | (at_builtin; refine Lib.wpList_append_run _ rfl _ _ _ _ rfl _ _ rfl rfl _ _ (hrz _) ?_)
    | (at_builtin; refine wpList_copy_runI _ rfl _ _ 104 104 rfl _ _ rfl rfl (hcpA _ hE1 hE2 _ _) ?_)
    | (at_builtin; refine wpList_copy_runI _ rfl _ _ 104 104 rfl _ _ rfl rfl (hcpB _ (fun _ => rfl) (fun _ => rfl) _ _ _) ?_))
  go_region_law_o (refine step_copy_runI rfl _ _ 104 104 rfl (.slice (some ⟨w.heap.size, (i + 1) * 2, none⟩) (n - i) (G - (i + 1))) (.slice (some ⟨g, i * 2, none⟩) (n - i) (c - i)) (by simp [Act.eval, Act.put]) (by simp [Act.eval, Act.put]) (hcpB _ hF1 hF2 3 (G - (i + 1)) (c - i)) ?_)
  go_wp2
  go_ret
  exact ⟨rfl, rfl⟩
end Go.Proofs.Ytgfmplhpoblleaa.FailW
end
section
/- slices.Insert of one edge: one contract over the call's own row. -/
namespace Go.Proofs.Ytgfmplhpoblleaa.FailW
open Go.RowKit Go.Shelf Go.Lib Go.Proofs Go.Proofs.YtgfmplhpoblleaaW.PrintWords Go.Proofs.YtgfmplhpoblleaaW.PrintLast Go.Proofs.YtgfmplhpoblleaaW.PrintMore Go.Proofs.Ytgfmplhpoblleaa.PRank Go.Proofs.Ytgfmplhpoblleaa.PFB Go.Proofs.Ytgfmplhpoblleaa.RankW Go.Proofs.Ytgfmplhpoblleaa.SortOwn Go.Proofs.Ytgfmplhpoblleaa
open Go.Proofs.Ytgfmplhpoblleaa.Cmps hiding dedup
set_option linter.unusedVariables false
set_option linter.unusedSimpArgs false

theorem ecells_len (l : List S122) : (ecells l).length = l.length * 2 := by
  induction l with
  | nil => rfl
  | cons a r ih => simp [ecells] at *; omega
theorem ecells_append (l m : List S122) : ecells (l ++ m) = ecells l ++ ecells m := by simp [ecells]
theorem ecells_take (l : List S122) (i : Nat) : ecells (l.take i) = (ecells l).take (i * 2) := by
  induction l generalizing i with
  | nil => simp [ecells]
  | cons a r ih =>
    cases i with
    | zero => simp [ecells]
    | succ i =>
      have := ih i
      simp only [ecells] at this
      rw [List.take_succ_cons]
      simp only [ecells, List.flatMap_cons]
      rw [this, show (i + 1) * 2 = i * 2 + 1 + 1 by omega]
      rfl
theorem ecells_drop (l : List S122) (i : Nat) : ecells (l.drop i) = (ecells l).drop (i * 2) := by
  have h := ecells_append (l.take i) (l.drop i)
  rw [List.take_append_drop] at h
  have h2 := List.take_append_drop (i * 2) (ecells l)
  rw [← ecells_take] at h2
  exact (List.append_cancel_left (h2.trans h)).symm
theorem ecells_one {l : List S122} : ∀ v ∈ ecells l, v.oneCell' = true := by
  intro v hv
  obtain ⟨e, _, h⟩ := List.mem_flatMap.1 hv
  simp at h
  rcases h with rfl | rfl <;> rfl
theorem reps_edges (l : List S122) (w : World) (base : Nat) (ok : Nat → Prop) : Reps (k122.M w base ok) k122.sz l (ecells l) := by
  refine ⟨ecells_len l, fun j p hj => ?_⟩
  obtain ⟨hl, rfl⟩ := List.getElem?_eq_some_iff.1 hj
  show k122.M w base ok l[j] (((ecells l).drop (j * 2)).take 2)
  rw [← ecells_drop, List.drop_eq_getElem_cons hl]
  simp only [ecells, List.flatMap_cons, List.cons_append, List.nil_append]
  exact k122_mkM _ _ _ _
theorem edges_of_reps {l : List S122} {inner : List Value} {w : World} {base : Nat} {ok : Nat → Prop} (h : Reps (k122.M w base ok) k122.sz l inner) : inner = ecells l := by
  obtain ⟨h1, h2⟩ := h
  have h1' : inner.length = l.length * 2 := h1
  apply List.ext_getElem?
  intro t
  rcases Nat.lt_or_ge t (l.length * 2) with ht | ht
  · have hj : t / 2 < l.length := by omega
    have a := h2 (t / 2) _ (List.getElem?_eq_getElem hj)
    have b := (reps_edges l w base ok).2 (t / 2) _ (List.getElem?_eq_getElem hj)
    have a' := k122_openM a
    have b' := k122_openM b
    have := a'.trans b'.symm
    have e : ((inner.drop (t / 2 * 2)).take 2)[t % 2]? = (((ecells l).drop (t / 2 * 2)).take 2)[t % 2]? := by
      have : ((inner.drop (t / 2 * k122.sz)).take k122.sz) = (((ecells l).drop (t / 2 * k122.sz)).take k122.sz) := this
      exact congrArg (fun q : List Value => q[t % 2]?) this
    rw [List.getElem?_take_of_lt (by omega), List.getElem?_take_of_lt (by omega), List.getElem?_drop, List.getElem?_drop, show t / 2 * 2 + t % 2 = t by omega] at e
    exact e
  · rw [List.getElem?_eq_none (by omega), List.getElem?_eq_none (by rw [ecells_len]; omega)]
theorem own_edges {w : World} {base : Nat} {ok : Nat → Prop} {v : Value} {l : List S122} (h : Kd.R k122 122 w base ok v l) : w.ownsRow base 122 2 v l.length (ecells l) := by
  obtain ⟨_, inner, ho, hr⟩ := h
  rw [← edges_of_reps hr]; exact ho
theorem edges_own {w : World} {base : Nat} {v : Value} {l : List S122} (h : w.ownsRow base 122 2 v l.length (ecells l)) : Kd.R k122 122 w base (fun _ => True) v l := ⟨fun _ _ => trivial, ecells l, h, reps_edges l _ _ _⟩

theorem mid_list (cur cs vs : List Value) (n i : Nat) (hi : i < n) (hcs : cur.take (n * 2) = cs) (hcl : cs.length = n * 2) (hcur : (n + 1) * 2 ≤ cur.length) (hv : vs.length = 2) :
    (((cur.take ((i + 1) * 2) ++ cs.drop (i * 2) ++ cur.drop ((i + 1) * 2 + (cs.drop (i * 2)).length)).take (i * 2) ++ vs ++ (cur.take ((i + 1) * 2) ++ cs.drop (i * 2) ++ cur.drop ((i + 1) * 2 + (cs.drop (i * 2)).length)).drop (i * 2 + vs.length))).take ((n + 1) * 2) = cs.take (i * 2) ++ vs ++ cs.drop (i * 2) := by
  have e1 : (cur.take ((i + 1) * 2) ++ cs.drop (i * 2) ++ cur.drop ((i + 1) * 2 + (cs.drop (i * 2)).length)).take (i * 2) = cs.take (i * 2) := by
    rw [List.append_assoc, List.take_append_of_le_length (by rw [List.length_take]; omega), List.take_take, Nat.min_eq_left (by omega), ← hcs, List.take_take, Nat.min_eq_left (by omega)]
  have e2 : (cur.take ((i + 1) * 2) ++ cs.drop (i * 2) ++ cur.drop ((i + 1) * 2 + (cs.drop (i * 2)).length)).drop (i * 2 + vs.length) = cs.drop (i * 2) ++ cur.drop ((i + 1) * 2 + (cs.drop (i * 2)).length) := by
    rw [List.append_assoc, hv]
    have hl : (cur.take ((i + 1) * 2)).length = i * 2 + 2 := by rw [List.length_take]; omega
    rw [← hl, List.drop_left]
  rw [e1, e2, ← List.append_assoc, List.take_append_of_le_length (by simp [hv, hcl]; omega), List.take_of_length_le (by simp [hv, hcl]; omega)]

/-- One edge is put into a row of edges. -/
theorem insert_edge (v : Value) (l : List S122) (i : Nat) (y : S122) (vb : Nat) (base : Nat) (w : World) (hown : Kd.R k122 122 w base (fun _ => True) v l) (hi : i ≤ l.length) (hb : base ≤ w.heap.size) (hn : (l.length + 1) * 16 ≤ 140737488355328)
    (hbox : w.heap[vb]? = some (.cells #[.int .i64 y.f0, .int .i64 y.f1] 122 (0, 0))) (hne : v.ownBlock ≠ some vb) :
    Calls Try.prog 101 #[v, .int .i64 i, .slice (some ⟨vb, 0, none⟩) 1 1] w fun e w' => ∃ v', e = .returned v' ∧ Kd.R k122 122 w' base (fun _ => True) v' (l.take i ++ y :: l.drop i) ∧ w.grownBy w' v.ownBlock ∧ (v'.ownBlock = v.ownBlock ∨ ∃ b, v'.ownBlock = some b ∧ w.heap.size ≤ b) := by
  have hvs : ∀ j u, [Value.int .i64 y.f0, .int .i64 y.f1][j]? = some u → w.cell? ⟨vb, j, none⟩ = some u := by
    intro j u hj
    rw [blk_cell hbox]; simpa using hj
  rcases Nat.lt_or_ge i l.length with hlt | hge
  · have ho := own_edges hown
    have hlc := ecells_len l
    rcases ho.2 with ⟨rfl, h0⟩ | ⟨g, cap, cur, rfl, hg, hh, hnc, hm, hsz, ht⟩
    · omega
    · have hgv : vb ≠ g := fun e => hne (by rw [e]; rfl)
      have hcs : ∀ j u, (ecells l)[j]? = some u → w.cell? ⟨g, j, none⟩ = some u := by
        intro j u hj
        rw [blk_cell hh, ← Array.getElem?_toList]
        rw [← ht, List.getElem?_take] at hj
        split at hj
        · exact hj
        · cases hj
      by_cases hr : l.length + 1 ≤ cap
      · refine (insert_shift g l.length cap i vb (ecells l) [.int .i64 y.f0, .int .i64 y.f1] w hlt hr (by unfold maxLen at hm; omega) hgv hlc rfl hcs (fun j hj => by rw [blk_cell hh, Array.getElem?_eq_getElem (by omega)]; rfl) (fun j => blk_frozen hh j) hvs ecells_one (by intro u hu; simp at hu; rcases hu with rfl | rfl <;> rfl)
          122 122 2 cur.size (by simp [World.shape?, hbox]) (by simp [World.shape?, hh]) (by omega) (blk_frozen hbox _) (blk_frozen hbox _)).mono ?_
        rintro e w' ⟨rfl, rfl⟩
        obtain ⟨c1, k1, z1, t1⟩ := setCells_row ((ecells l).drop (i * 2)) ((i + 1) * 2) w.drew cur hh (by rw [List.length_drop, hlc]; omega)
        obtain ⟨c2, k2, z2, t2⟩ := setCells_row [Value.int .i64 y.f0, Value.int .i64 y.f1] (i * 2) _ c1 k1 (by rw [z1]; simp; omega)
        have hm2 := mid_list cur.toList (ecells l) [Value.int .i64 y.f0, Value.int .i64 y.f1] l.length i hlt ht hlc (by have h9 : cur.toList.length = cur.size := Array.length_toList; omega) rfl
        rw [← t1, ← t2] at hm2
        refine ⟨_, rfl, edges_own ?_, ?_, .inl rfl⟩
        · have el : (l.take i ++ y :: l.drop i).length = l.length + 1 := by simp; omega
          have ec : ecells (l.take i ++ y :: l.drop i) = (ecells l).take (i * 2) ++ [Value.int .i64 y.f0, Value.int .i64 y.f1] ++ (ecells l).drop (i * 2) := by
            rw [ecells_append, ecells_take, show y :: l.drop i = [y] ++ l.drop i from rfl, ecells_append, ecells_drop, List.append_assoc]; rfl
          rw [el, ec]
          exact ⟨by simp [hlc]; omega, .inr ⟨g, cap, c2, rfl, hg, k2, hr, hm, by rw [z2, z1]; exact hsz, hm2⟩⟩
        · obtain ⟨o1, o2, o3, o4⟩ := setCells_same g ((ecells l).drop (i * 2)) ((i + 1) * 2) w.drew
          obtain ⟨p1, p2, p3, p4⟩ := setCells_same g [Value.int .i64 y.f0, Value.int .i64 y.f1] (i * 2) (w.drew.setCells g ((i + 1) * 2) ((ecells l).drop (i * 2)))
          exact ⟨p1.trans o1, p2.trans o2, p3.trans o3, by rw [p4, o4]; exact Nat.le_refl _, fun k hk hne2 => (setCells_far _ _ k (fun e => hne2 (by rw [e]; rfl))).trans (setCells_far _ _ k (fun e => hne2 (by rw [e]; rfl)))⟩
      · refine (insert_grow g l.length cap i vb (ecells l) [.int .i64 y.f0, .int .i64 y.f1] w hlt hnc (by omega) hn hlc rfl hcs hvs ecells_one (by intro u hu; simp at hu; rcases hu with rfl | rfl <;> rfl)).mono ?_
        rintro e w' ⟨rfl, rfl⟩
        obtain ⟨G, hG⟩ : ∃ G, G = grownCap w (l.length + 1) cap 122 := ⟨_, rfl⟩
        rw [← hG]
        have hGn : l.length + 1 ≤ G := by rw [hG]; exact grownCap_ge w _ _ _
        have hGm : G ≤ maxLen := by rw [hG]; exact grownCap_le_maxLen w (l.length + 1) cap 122 (by unfold maxLen; omega)
        have hd2 : ((ecells l).drop (i * 2)).length = (l.length - i) * 2 := by rw [List.length_drop, hlc]; omega
        have ht2 : ((ecells l).take (i * 2)).length = i * 2 := by rw [List.length_take, hlc]; omega
        have hs0 : (newRow ((ecells l).take (i * 2)) (l.length + 1 - i) (G - (l.length + 1))).size = G * 2 := by
          simp [newRow, Builtin.zeroCells, Value.cells, hlc]; omega
        have hp0 : (newRow ((ecells l).take (i * 2)) (l.length + 1 - i) (G - (l.length + 1))).toList.take (i * 2) = (ecells l).take (i * 2) := by
          unfold newRow
          rw [Array.toList_append, Array.toList_append, List.append_assoc, List.take_append_of_le_length (by simp [hlc]; omega), List.take_of_length_le (by rw [ht2]; exact Nat.le_refl _)]
        generalize newRow ((ecells l).take (i * 2)) (l.length + 1 - i) (G - (l.length + 1)) = R at hs0 hp0 ⊢
        have h0 := heap_alloc_new w (.cells R 122)
        obtain ⟨c1, k1, z1, t1⟩ := setCells_row [Value.int .i64 y.f0, Value.int .i64 y.f1] (i * 2) (w.alloc (.cells R 122)).drew R h0 (by simp; omega)
        obtain ⟨c2, k2, z2, t2⟩ := setCells_row ((ecells l).drop (i * 2)) ((i + 1) * 2) (((w.alloc (.cells R 122)).drew.setCells w.heap.size (i * 2) [Value.int .i64 y.f0, Value.int .i64 y.f1]).drew) c1 k1 (by rw [z1]; omega)
        have hlen1 : c1.toList.length = G * 2 := by have : c1.toList.length = c1.size := Array.length_toList; omega
        have e1 : c1.toList.take ((i + 1) * 2) = (ecells l).take (i * 2) ++ [Value.int .i64 y.f0, Value.int .i64 y.f1] := by
          rw [t1, hp0, List.take_append_of_le_length (by simp [hlc]; omega), List.take_of_length_le (by simp [hlc]; omega)]
        have e2 : c2.toList.take ((l.length + 1) * 2) = (ecells l).take (i * 2) ++ [Value.int .i64 y.f0, Value.int .i64 y.f1] ++ (ecells l).drop (i * 2) := by
          rw [t2, e1, List.take_append_of_le_length (by simp [hlc]; omega), List.take_of_length_le (by simp [hlc]; omega)]
        refine ⟨_, rfl, edges_own ?_, ?_, .inr ⟨w.heap.size, rfl, Nat.le_refl _⟩⟩
        · have el : (l.take i ++ y :: l.drop i).length = l.length + 1 := by simp; omega
          have ec : ecells (l.take i ++ y :: l.drop i) = (ecells l).take (i * 2) ++ [Value.int .i64 y.f0, Value.int .i64 y.f1] ++ (ecells l).drop (i * 2) := by
            rw [ecells_append, ecells_take, show y :: l.drop i = [y] ++ l.drop i from rfl, ecells_append, ecells_drop, List.append_assoc]; rfl
          rw [el, ec]
          exact ⟨by simp [hlc]; omega, .inr ⟨w.heap.size, G, c2, rfl, hb, k2, hGn, hGm, by rw [z2, z1]; exact hs0, e2⟩⟩
        · obtain ⟨o1, o2, o3, o4⟩ := setCells_same w.heap.size [Value.int .i64 y.f0, Value.int .i64 y.f1] (i * 2) (w.alloc (.cells R 122)).drew
          obtain ⟨p1, p2, p3, p4⟩ := setCells_same w.heap.size ((ecells l).drop (i * 2)) ((i + 1) * 2) ((w.alloc (.cells R 122)).drew.setCells w.heap.size (i * 2) [Value.int .i64 y.f0, Value.int .i64 y.f1]).drew
          have hsz0 : w.heap.size ≤ ((w.alloc (.cells R 122)).drew).heap.size := by show w.heap.size ≤ (w.heap.push _).size; simp
          refine ⟨p1.trans o1, p2.trans o2, p3.trans o3, by rw [p4]; exact Nat.le_trans hsz0 (Nat.le_of_eq o4.symm), fun k hk _ => ?_⟩
          exact (setCells_far _ _ k (by omega)).trans ((setCells_far _ _ k (by omega)).trans (Below.heap_alloc w _ k hk))
  · obtain rfl : i = l.length := by omega
    rw [List.take_of_length_le (Nat.le_refl _), List.drop_of_length_le (Nat.le_refl _)]
    refine insert_end v l y vb base w hown hb hn ⟨rfl, by decide, fun _ => ⟨_, rfl, fun j p hj => ?_⟩⟩
    cases j with
    | zero =>
      simp at hj
      subst hj
      refine ⟨_, rfl, k122_mk w y, fun k u hk => ?_⟩
      have := hvs k u hk
      rw [Nat.zero_mul, Nat.zero_add, Addr.add_lit, Nat.zero_add]; exact this
    | succ j => simp at hj
end Go.Proofs.Ytgfmplhpoblleaa.FailW
end
section
/- A trie that is being built: its memory. -/
namespace Go.Proofs.Ytgfmplhpoblleaa.FailW
open Go.RowKit Go.Shelf Go.Lib Go.Proofs Go.Proofs.YtgfmplhpoblleaaW.PrintWords Go.Proofs.YtgfmplhpoblleaaW.PrintLast Go.Proofs.YtgfmplhpoblleaaW.PrintMore Go.Proofs.Ytgfmplhpoblleaa.PRank Go.Proofs.Ytgfmplhpoblleaa.PFB Go.Proofs.Ytgfmplhpoblleaa.RankW Go.Proofs.Ytgfmplhpoblleaa.SortOwn Go.Proofs.Ytgfmplhpoblleaa
open Go.Proofs.Ytgfmplhpoblleaa.Cmps hiding dedup
set_option linter.unusedVariables false
set_option linter.unusedSimpArgs false

/-- A node's cells: its edges' row and its ends' row are the values e and d. -/
def ncell (y : S106) (p : Value × Value) : List Value := [.int .i64 y.f0, .int .i64 y.f1, .int .i64 y.f2, p.1, p.2]
def ncells (x : List S106) (L : List (Value × Value)) : List Value := (List.zipWith ncell x L).flatten
/-- A node's two rows are the call's own. -/
structure Nd (w : World) (base : Nat) (y : S106) (p : Value × Value) : Prop where
  e : w.ownsRow base 122 2 p.1 y.f3.length (ecells y.f3)
  d : w.ownsRow base 3 1 p.2 y.f4.length (encs (Value.int .i64) y.f4)
def Far (u v : Value) : Prop := u.ownBlock = none ∨ u.ownBlock ≠ v.ownBlock
/-- No two nodes share a row. -/
def Apart (L : List (Value × Value)) : Prop := ∀ (i j : Nat) (p q : Value × Value), i ≠ j → L[i]? = some p → L[j]? = some q → Far p.1 q.1 ∧ Far p.2 q.2
/-- The trie at block g. -/
structure Bld (w : World) (base g : Nat) (vn : Value) (x : List S106) (L : List (Value × Value)) : Prop where
  blk : w.heap[g]? = some (.cells #[vn] 96 (0, 0))
  hg : base ≤ g
  len : L.length = x.length
  row : w.ownsRow base 106 5 vn x.length (ncells x L)
  nd : ∀ (i : Nat) (y : S106) (p : Value × Value), x[i]? = some y → L[i]? = some p → Nd w base y p
  ap : Apart L

theorem ncells_len (x : List S106) (L : List (Value × Value)) (h : L.length = x.length) : (ncells x L).length = x.length * 5 := by
  induction x generalizing L with
  | nil => simp [ncells]
  | cons a r ih =>
    cases L with
    | nil => simp at h
    | cons b s =>
      have := ih s (by simpa using h)
      simp only [ncells, List.zipWith_cons_cons, List.flatten_cons, List.length_append] at this ⊢
      rw [this]; simp [ncell]; omega
theorem ncells_snoc (x : List S106) (L : List (Value × Value)) (h : L.length = x.length) (y : S106) (p : Value × Value) : ncells (x ++ [y]) (L ++ [p]) = ncells x L ++ ncell y p := by
  unfold ncells
  rw [List.zipWith_append h.symm]
  simp
theorem ncells_at (x : List S106) (L : List (Value × Value)) (h : L.length = x.length) (i : Nat) (hi : i < x.length) (j : Nat) (hj : j < 5) : (ncells x L)[i * 5 + j]? = (ncell x[i] (L[i]'(by omega)))[j]? := by
  induction x generalizing L i with
  | nil => simp at hi
  | cons a r ih =>
    cases L with
    | nil => simp at h
    | cons b s =>
      have hc : (ncell a b).length = 5 := rfl
      simp only [ncells, List.zipWith_cons_cons, List.flatten_cons]
      cases i with
      | zero =>
        rw [List.getElem?_append_left (by omega)]
        simp
      | succ i =>
        rw [List.getElem?_append_right (by omega), hc, show (i + 1) * 5 + j - 5 = i * 5 + j by omega]
        have := ih s (by simpa using h) i (by simpa using hi)
        unfold ncells at this
        rw [this]; simp
theorem ncells_set (x : List S106) (L : List (Value × Value)) (h : L.length = x.length) (i : Nat) (hi : i < x.length) (y : S106) (p : Value × Value) (j : Nat) (hj : j < 5) (u : Value)
    (hc : (ncell x[i] (L[i]'(by omega))).set j u = ncell y p) : (ncells x L).set (i * 5 + j) u = ncells (x.set i y) (L.set i p) := by
  induction x generalizing L i with
  | nil => simp at hi
  | cons a r ih =>
    cases L with
    | nil => simp at h
    | cons b s =>
      have hl : (ncell a b).length = 5 := rfl
      simp only [ncells, List.zipWith_cons_cons, List.flatten_cons]
      cases i with
      | zero =>
        simp only [List.getElem_cons_zero] at hc
        rw [Nat.zero_mul, Nat.zero_add, List.set_append_left _ _ (by omega), hc]
        simp
      | succ i =>
        have := ih s (by simpa using h) i (by simpa using hi) (by simpa using hc)
        unfold ncells at this
        rw [List.set_append_right _ _ (by omega), hl, show (i + 1) * 5 + j - 5 = i * 5 + j by omega, this]
        simp

section
variable {w : World} {base g n cap : Nat} {e : TypeId} {size : Nat} {xs : List Value}
theorem own_blk (h : w.ownsRow base e size (.slice (some ⟨g, 0, none⟩) n cap) n xs) : ∃ cur, w.heap[g]? = some (.cells cur e (0, 0)) ∧ n ≤ cap ∧ cap ≤ maxLen ∧ cur.size = cap * size ∧ cur.toList.take (n * size) = xs ∧ base ≤ g := by
  rcases h.2 with ⟨h0, _⟩ | ⟨g', cap', cur, he, hg, hh, h1, h2, h3, h4⟩
  · cases h0
  · injection he with he1 _ he2
    injection he1 with he1
    injection he1 with he1
    subst he1 he2
    exact ⟨cur, hh, h1, h2, h3, h4, hg⟩
theorem own_cells (h : w.ownsRow base e size (.slice (some ⟨g, 0, none⟩) n cap) n xs) {t : Nat} {u : Value} (hu : xs[t]? = some u) : w.cell? ⟨g, t, none⟩ = some u := by
  obtain ⟨cur, hh, _, _, _, ht, _⟩ := own_blk h
  rw [blk_cell hh, ← Array.getElem?_toList]
  rw [← ht, List.getElem?_take] at hu
  split at hu
  · exact hu
  · cases hu
theorem own_frozen (h : w.ownsRow base e size (.slice (some ⟨g, 0, none⟩) n cap) n xs) (t : Nat) : w.frozen? ⟨g, t, none⟩ = false := by
  obtain ⟨cur, hh, _⟩ := own_blk h
  exact blk_frozen hh t
theorem own_set (h : w.ownsRow base e size (.slice (some ⟨g, 0, none⟩) n cap) n xs) (t : Nat) (u : Value) :
    (w.setCell ⟨g, t, none⟩ u).ownsRow base e size (.slice (some ⟨g, 0, none⟩) n cap) n (xs.set t u) ∧ w.grownBy (w.setCell ⟨g, t, none⟩ u) (some g) := by
  obtain ⟨cur, hh, h1, h2, h3, h4, hg⟩ := own_blk h
  have hb := blk_set hh t u
  refine ⟨⟨by rw [List.length_set]; exact h.1, .inr ⟨g, cap, cur.setIfInBounds t u, rfl, hg, hb, h1, h2, by simpa using h3, ?_⟩⟩, ?_⟩
  · rw [← h4, Array.toList_setIfInBounds, List.take_set]
  · exact ⟨rfl, rfl, rfl, by simp [World.setCell], fun k hk hne => Below.heap_setCell w _ u k (fun e => hne (by rw [e]))⟩
end

theorem Nd.kept {w w1 : World} {base : Nat} {y : S106} {p : Value × Value} (h : Nd w base y p) {row : Option Nat} (hg : w.grownBy w1 row) (h1 : p.1.ownBlock = none ∨ p.1.ownBlock ≠ row) (h2 : p.2.ownBlock = none ∨ p.2.ownBlock ≠ row) : Nd w1 base y p := ⟨own_other h.e hg h1, own_other h.d hg h2⟩
theorem Bld.below {w w1 : World} {base g : Nat} {vn : Value} {x : List S106} {L : List (Value × Value)} (h : Bld w base g vn x L) (hb : Go.RowKit.Below w.heap.size w w1) : Bld w1 base g vn x L :=
  ⟨blk_below h.blk hb, h.hg, h.len, pw_own_below h.row hb, fun i y p h1 h2 => ⟨pw_own_below (h.nd i y p h1 h2).e hb, pw_own_below (h.nd i y p h1 h2).d hb⟩, h.ap⟩
/-- A row is not the block of another type. -/
theorem own_ne_blk {w : World} {base g : Nat} {e t : TypeId} {size n : Nat} {v : Value} {xs : List Value} {cs : Array Value} (h : w.ownsRow base e size v n xs) (hb : w.heap[g]? = some (.cells cs t (0, 0))) (hne : e ≠ t) : v.ownBlock = none ∨ v.ownBlock ≠ some g := by
  rcases h.2 with ⟨rfl, _⟩ | ⟨g', cap', cur', rfl, _, hh', _⟩
  · exact .inl rfl
  · refine .inr fun hk => ?_
    have : g' = g := by simpa [Value.ownBlock] using hk
    subst this
    rw [hh'] at hb
    injection hb with hb
    injection hb with _ ht
    exact hne ht
theorem grownBy_set (w : World) (p : Addr) (u : Value) : w.grownBy (w.setCell p u) (some p.block) := ⟨rfl, rfl, rfl, by simp [World.setCell], fun k hk hne => Below.heap_setCell w _ u k (fun e => hne (by rw [e]))⟩

/-- A node's edges have been put anew. -/
theorem Bld.edges {w w1 : World} {base g gn cap : Nat} {x : List S106} {L : List (Value × Value)} (h : Bld w base g (.slice (some ⟨gn, 0, none⟩) x.length cap) x L) (i : Nat) (hi : i < x.length) (hiL : i < L.length) (ve : Value) (m : List S122)
    (hg : w.grownBy w1 L[i].1.ownBlock) (ho : w1.ownsRow base 122 2 ve m.length (ecells m)) (hat : ve.ownBlock = L[i].1.ownBlock ∨ ∃ b, ve.ownBlock = some b ∧ w.heap.size ≤ b) :
    Bld (w1.setCell ⟨gn, i * 5 + 3, none⟩ ve) base g (.slice (some ⟨gn, 0, none⟩) (x.set i ⟨x[i].f0, x[i].f1, x[i].f2, m, x[i].f4⟩).length cap) (x.set i ⟨x[i].f0, x[i].f1, x[i].f2, m, x[i].f4⟩) (L.set i (ve, L[i].2)) := by
  have hx : x[i]? = some x[i] := List.getElem?_eq_getElem hi
  have hL : L[i]? = some L[i] := List.getElem?_eq_getElem hiL
  have hndi := h.nd i _ _ hx hL
  have r1 : w1.ownsRow base 106 5 (.slice (some ⟨gn, 0, none⟩) x.length cap) x.length (ncells x L) := own_other h.row hg (own_type_ne h.row hndi.e (by decide))
  obtain ⟨r2, g2⟩ := own_set r1 (i * 5 + 3) ve
  obtain ⟨curn, hbn, _⟩ := own_blk r1
  have b1 : w1.heap[g]? = some (.cells #[.slice (some ⟨gn, 0, none⟩) x.length cap] 96 (0, 0)) := by
    refine blk_grown h.blk hg fun e => ?_
    rcases own_ne_blk hndi.e h.blk (by decide) with h1 | h1
    · rw [h1] at e; cases e
    · exact h1 e.symm
  have hgn : g ≠ gn := blk_ne b1 hbn (by decide)
  have far : ∀ {e : TypeId} {size n : Nat} {v : Value} {xs : List Value}, w1.ownsRow base e size v n xs → e ≠ 106 → (w1.setCell ⟨gn, i * 5 + 3, none⟩ ve).ownsRow base e size v n xs := fun hv hne => own_other hv g2 (own_ne_blk hv hbn hne)
  have hlen : (x.set i ⟨x[i].f0, x[i].f1, x[i].f2, m, x[i].f4⟩).length = x.length := List.length_set
  refine ⟨by rw [hlen]; exact blk_far b1 hgn ve, h.hg, by rw [List.length_set, hlen]; exact h.len, ?_, ?_, ?_⟩
  · rw [hlen, ← ncells_set x L h.len i hi ⟨x[i].f0, x[i].f1, x[i].f2, m, x[i].f4⟩ (ve, L[i].2) 3 (by omega) ve rfl]
    exact r2
  · intro j y p hy hp
    by_cases hij : i = j
    · subst hij
      rw [List.getElem?_set_self (by omega)] at hy hp
      obtain rfl := Option.some.inj hy
      obtain rfl := Option.some.inj hp
      refine ⟨far ho (by decide), far (own_other hndi.d hg ?_) (by decide)⟩
      exact own_type_ne hndi.d hndi.e (by decide)
    · rw [List.getElem?_set_ne hij] at hy hp
      have hnd := h.nd j y p hy hp
      refine ⟨far (own_other hnd.e hg ?_) (by decide), far (own_other hnd.d hg (own_type_ne hnd.d hndi.e (by decide))) (by decide)⟩
      exact (h.ap j i p _ (fun e => hij e.symm) hp hL).1
  · intro a b p q hab hp hq
    have lt1 : ∀ (j : Nat) (r : Value × Value), j ≠ i → L[j]? = some r → Far ve r.1 ∧ Far r.1 ve := by
      intro j r hj hr
      have hjx : j < x.length := by have := (List.getElem?_eq_some_iff.1 hr).1; have := h.len; omega
      have hndj := h.nd j _ r (List.getElem?_eq_getElem hjx) hr
      rcases hat with e1 | ⟨b', e1, hb'⟩
      · refine ⟨?_, ?_⟩
        · have := (h.ap i j _ r (fun e => hj e.symm) hL hr).1
          unfold Far at this ⊢; rw [e1]; exact this
        · have := (h.ap j i r _ hj hr hL).1
          unfold Far at this ⊢; rw [e1]; exact this
      · refine ⟨.inr fun e => ?_, .inr fun e => ?_⟩
        · rw [e1] at e
          have := own_lt hndj.e b' e.symm
          omega
        · rw [e1] at e
          have := own_lt hndj.e b' e
          omega
    by_cases ha : i = a
    · subst ha
      rw [List.getElem?_set_self (by omega)] at hp
      rw [List.getElem?_set_ne hab] at hq
      obtain rfl := Option.some.inj hp
      exact ⟨(lt1 b q (fun e => hab e.symm) hq).1, (h.ap i b _ q hab hL hq).2⟩
    · rw [List.getElem?_set_ne ha] at hp
      by_cases hb : i = b
      · subst hb
        rw [List.getElem?_set_self (by omega)] at hq
        obtain rfl := Option.some.inj hq
        exact ⟨(lt1 a p (fun e => ha e.symm) hp).2, (h.ap a i p _ hab hp hL).2⟩
      · rw [List.getElem?_set_ne hb] at hq
        exact h.ap a b p q hab hp hq
/-- A node's ends have been put anew. -/
theorem Bld.ends {w w1 : World} {base g gn cap : Nat} {x : List S106} {L : List (Value × Value)} (h : Bld w base g (.slice (some ⟨gn, 0, none⟩) x.length cap) x L) (i : Nat) (hi : i < x.length) (hiL : i < L.length) (ve : Value) (m : List Int)
    (hg : w.grownBy w1 L[i].2.ownBlock) (ho : w1.ownsRow base 3 1 ve m.length (encs (Value.int .i64) m)) (hat : ve.ownBlock = L[i].2.ownBlock ∨ ∃ b, ve.ownBlock = some b ∧ w.heap.size ≤ b) :
    Bld (w1.setCell ⟨gn, i * 5 + 4, none⟩ ve) base g (.slice (some ⟨gn, 0, none⟩) (x.set i ⟨x[i].f0, x[i].f1, x[i].f2, x[i].f3, m⟩).length cap) (x.set i ⟨x[i].f0, x[i].f1, x[i].f2, x[i].f3, m⟩) (L.set i (L[i].1, ve)) := by
  have hx : x[i]? = some x[i] := List.getElem?_eq_getElem hi
  have hL : L[i]? = some L[i] := List.getElem?_eq_getElem hiL
  have hndi := h.nd i _ _ hx hL
  have r1 : w1.ownsRow base 106 5 (.slice (some ⟨gn, 0, none⟩) x.length cap) x.length (ncells x L) := own_other h.row hg (own_type_ne h.row hndi.d (by decide))
  obtain ⟨r2, g2⟩ := own_set r1 (i * 5 + 4) ve
  obtain ⟨curn, hbn, _⟩ := own_blk r1
  have b1 : w1.heap[g]? = some (.cells #[.slice (some ⟨gn, 0, none⟩) x.length cap] 96 (0, 0)) := by
    refine blk_grown h.blk hg fun e => ?_
    rcases own_ne_blk hndi.d h.blk (by decide) with h1 | h1
    · rw [h1] at e; cases e
    · exact h1 e.symm
  have hgn : g ≠ gn := blk_ne b1 hbn (by decide)
  have far : ∀ {e : TypeId} {size n : Nat} {v : Value} {xs : List Value}, w1.ownsRow base e size v n xs → e ≠ 106 → (w1.setCell ⟨gn, i * 5 + 4, none⟩ ve).ownsRow base e size v n xs := fun hv hne => own_other hv g2 (own_ne_blk hv hbn hne)
  have hlen : (x.set i ⟨x[i].f0, x[i].f1, x[i].f2, x[i].f3, m⟩).length = x.length := List.length_set
  refine ⟨by rw [hlen]; exact blk_far b1 hgn ve, h.hg, by rw [List.length_set, hlen]; exact h.len, ?_, ?_, ?_⟩
  · rw [hlen, ← ncells_set x L h.len i hi ⟨x[i].f0, x[i].f1, x[i].f2, x[i].f3, m⟩ (L[i].1, ve) 4 (by omega) ve rfl]
    exact r2
  · intro j y p hy hp
    by_cases hij : i = j
    · subst hij
      rw [List.getElem?_set_self (by omega)] at hy hp
      obtain rfl := Option.some.inj hy
      obtain rfl := Option.some.inj hp
      refine ⟨far (own_other hndi.e hg ?_) (by decide), far ho (by decide)⟩
      exact own_type_ne hndi.e hndi.d (by decide)
    · rw [List.getElem?_set_ne hij] at hy hp
      have hnd := h.nd j y p hy hp
      refine ⟨far (own_other hnd.e hg (own_type_ne hnd.e hndi.d (by decide))) (by decide), far (own_other hnd.d hg ?_) (by decide)⟩
      exact (h.ap j i p _ (fun e => hij e.symm) hp hL).2
  · intro a b p q hab hp hq
    have lt1 : ∀ (j : Nat) (r : Value × Value), j ≠ i → L[j]? = some r → Far ve r.2 ∧ Far r.2 ve := by
      intro j r hj hr
      have hjx : j < x.length := by have := (List.getElem?_eq_some_iff.1 hr).1; have := h.len; omega
      have hndj := h.nd j _ r (List.getElem?_eq_getElem hjx) hr
      rcases hat with e1 | ⟨b', e1, hb'⟩
      · refine ⟨?_, ?_⟩
        · have := (h.ap i j _ r (fun e => hj e.symm) hL hr).2
          unfold Far at this ⊢; rw [e1]; exact this
        · have := (h.ap j i r _ hj hr hL).2
          unfold Far at this ⊢; rw [e1]; exact this
      · refine ⟨.inr fun e => ?_, .inr fun e => ?_⟩
        · rw [e1] at e
          have := own_lt hndj.d b' e.symm
          omega
        · rw [e1] at e
          have := own_lt hndj.d b' e
          omega
    by_cases ha : i = a
    · subst ha
      rw [List.getElem?_set_self (by omega)] at hp
      rw [List.getElem?_set_ne hab] at hq
      obtain rfl := Option.some.inj hp
      exact ⟨(h.ap i b _ q hab hL hq).1, (lt1 b q (fun e => hab e.symm) hq).1⟩
    · rw [List.getElem?_set_ne ha] at hp
      by_cases hb : i = b
      · subst hb
        rw [List.getElem?_set_self (by omega)] at hq
        obtain rfl := Option.some.inj hq
        exact ⟨(h.ap a i p _ hab hp hL).1, (lt1 a p (fun e => ha e.symm) hp).2⟩
      · rw [List.getElem?_set_ne hb] at hq
        exact h.ap a b p q hab hp hq

/-- A node has been added. -/
theorem Bld.node {w w1 : World} {base g : Nat} {vn vn' : Value} {x : List S106} {L : List (Value × Value)} (h : Bld w base g vn x L) (up by_ depth : Int)
    (hg : w.grownBy w1 vn.ownBlock) (ho : w1.ownsRow base 106 5 vn' (x.length + 1) (ncells x L ++ [.int .i64 up, .int .i64 by_, .int .i64 depth, .slice none 0 0, .slice none 0 0])) :
    Bld (w1.setCell ⟨g, 0, none⟩ vn') base g vn' (x ++ [⟨up, by_, depth, [], []⟩]) (L ++ [(.slice none 0 0, .slice none 0 0)]) := by
  have b1 : w1.heap[g]? = some (.cells #[vn] 96 (0, 0)) := by
    refine blk_grown h.blk hg fun e => ?_
    rcases own_ne_blk h.row h.blk (by decide) with h1 | h1
    · rw [h1] at e; cases e
    · exact h1 e.symm
  have g2 := grownBy_set w1 ⟨g, 0, none⟩ vn'
  have far : ∀ {e : TypeId} {size n : Nat} {v : Value} {xs : List Value}, w1.ownsRow base e size v n xs → e ≠ 96 → (w1.setCell ⟨g, 0, none⟩ vn').ownsRow base e size v n xs := fun hv hne => own_other hv g2 (own_ne_blk hv b1 hne)
  have hl := h.len
  refine ⟨?_, h.hg, by simp [hl], ?_, ?_, ?_⟩
  · have := blk_set b1 0 vn'
    simpa using this
  · rw [ncells_snoc x L hl, List.length_append]
    exact far ho (by decide)
  · intro j y p hy hp
    rcases Nat.lt_or_ge j x.length with hj | hj
    · rw [List.getElem?_append_left hj] at hy
      rw [List.getElem?_append_left (by omega)] at hp
      have hnd := h.nd j y p hy hp
      exact ⟨far (own_other hnd.e hg (own_type_ne hnd.e h.row (by decide))) (by decide), far (own_other hnd.d hg (own_type_ne hnd.d h.row (by decide))) (by decide)⟩
    · rw [List.getElem?_append_right hj] at hy
      rw [List.getElem?_append_right (by omega)] at hp
      have e1 : y = ⟨up, by_, depth, [], []⟩ := by
        cases hk : j - x.length with
        | zero => rw [hk] at hy; simpa using hy.symm
        | succ k => rw [hk] at hy; simp at hy
      have e2 : p = (.slice none 0 0, .slice none 0 0) := by
        cases hk : j - L.length with
        | zero => rw [hk] at hp; simpa using hp.symm
        | succ k => rw [hk] at hp; simp at hp
      subst e1 e2
      exact ⟨own_nil _ _ _ _, own_nil _ _ _ _⟩
  · intro a b p q hab hp hq
    have nil_far : ∀ v : Value, Far (.slice none 0 0) v := fun v => .inl rfl
    have far_nil : ∀ v : Value, Far v (.slice none 0 0) := fun v => by
      unfold Far
      cases hv : v.ownBlock with
      | none => exact .inl rfl
      | some k => exact .inr (by simp [Value.ownBlock])
    have last : ∀ (c : Nat) (r : Value × Value), L.length ≤ c → (L ++ [((.slice none 0 0 : Value), (.slice none 0 0 : Value))])[c]? = some r → r = (.slice none 0 0, .slice none 0 0) := by
      intro c r hc hr
      rw [List.getElem?_append_right hc] at hr
      cases hk : c - L.length with
      | zero => rw [hk] at hr; simpa using hr.symm
      | succ k => rw [hk] at hr; simp at hr
    rcases Nat.lt_or_ge a L.length with ha | ha
    · rcases Nat.lt_or_ge b L.length with hb | hb
      · rw [List.getElem?_append_left ha] at hp
        rw [List.getElem?_append_left hb] at hq
        exact h.ap a b p q hab hp hq
      · rw [last b q hb hq]; exact ⟨far_nil _, far_nil _⟩
    · rw [last a p ha hp]; exact ⟨nil_far _, nil_far _⟩
end Go.Proofs.Ytgfmplhpoblleaa.FailW
end
section
/- trie: add, by its plain law. -/
namespace Go.Proofs.Ytgfmplhpoblleaa.FailW
open Go.RowKit Go.Shelf Go.Lib Go.Proofs Go.Proofs.YtgfmplhpoblleaaW.PrintWords Go.Proofs.YtgfmplhpoblleaaW.PrintLast Go.Proofs.YtgfmplhpoblleaaW.PrintMore Go.Proofs.Ytgfmplhpoblleaa.PRank Go.Proofs.Ytgfmplhpoblleaa.PFB Go.Proofs.Ytgfmplhpoblleaa.RankW Go.Proofs.Ytgfmplhpoblleaa.SortOwn Go.Proofs.Ytgfmplhpoblleaa
open Go.Proofs.Ytgfmplhpoblleaa.Cmps hiding dedup
set_option linter.unusedVariables false
set_option linter.unusedSimpArgs false

/-- A node's edges with one more. -/
def putEdge (l : List S122) (c : Int) (q : Int) : List S122 := l.take (place l c) ++ ⟨c, q⟩ :: l.drop (place l c)
/-- The trie with one node more, behind a node, by a number. -/
def grownT (x : List S106) (i : Nat) (y : S106) (c : Int) : List S106 := (x ++ [({ f0 := i, f1 := c, f2 := y.f2 + 1, f3 := [], f4 := [] } : S106)]).set i ⟨y.f0, y.f1, y.f2, putEdge y.f3 c x.length, y.f4⟩
/-- A pattern is laid: the trie, and the node where it ends. -/
def lay : List S106 → Nat → List Int → List S106 × Nat
  | x, i, [] => (x, i)
  | x, i, c :: r => match x[i]? with
    | none => (x, i)
    | some y => if has y.f3 c = true then lay x ((y.f3.getD (place y.f3 c) z122).f1.toNat) r else lay (grownT x i y c) x.length r
def addT (x : List S106) (n : Int) (pl : List Int) : List S106 :=
  let r := lay x 0 pl
  match r.1[r.2]? with
  | none => r.1
  | some y => r.1.set r.2 ⟨y.f0, y.f1, y.f2, y.f3, y.f4 ++ [n]⟩

theorem place_le (l : List S122) (c : Int) : place l c ≤ l.length := ahead_le _ _
theorem takeWhile_imp {α : Type} (p : α → Bool) : ∀ (l : List α) (x : α), x ∈ l.takeWhile p → p x = true
  | [], x, h => by simp at h
  | a :: r, x, h => by
    rw [List.takeWhile_cons] at h
    split at h
    · rename_i ha
      rcases List.mem_cons.1 h with rfl | h
      · exact ha
      · exact takeWhile_imp p r x h
    · simp at h
theorem place_lo {l : List S122} {c : Int} (j : Nat) (hj : j < place l c) (hl : j < l.length) : l[j].f0 < c := by
  unfold place ahead at hj
  have : (l.takeWhile (fun x : S122 => decide (cmpI x.f0 c < 0)))[j]? = l[j]? := by
    have hp := List.takeWhile_prefix (l := l) (fun x : S122 => decide (cmpI x.f0 c < 0))
    obtain ⟨t, ht⟩ := hp
    rw [← ht, List.getElem?_append_left hj, ht]
  have hm : l[j] ∈ l.takeWhile (fun x : S122 => decide (cmpI x.f0 c < 0)) := by
    rw [List.getElem?_eq_getElem hl] at this
    exact List.mem_of_getElem? this
  have := takeWhile_imp _ _ _ hm
  rw [decide_eq_true_eq, cmpI_neg] at this
  exact this
theorem place_hi {l : List S122} {c : Int} (h : place l c < l.length) : c ≤ l[place l c].f0 := by
  have h1 := List.head?_dropWhile_not (fun x : S122 => decide (cmpI x.f0 c < 0)) l
  have h2 : l.dropWhile (fun x : S122 => decide (cmpI x.f0 c < 0)) = l.drop (place l c) := by
    have e := List.takeWhile_append_dropWhile (p := fun x : S122 => decide (cmpI x.f0 c < 0)) (l := l)
    have e2 : (l.take (place l c)) = l.takeWhile (fun x : S122 => decide (cmpI x.f0 c < 0)) := by
      have e4 : place l c = (l.takeWhile (fun x : S122 => decide (cmpI x.f0 c < 0))).length := rfl
      rw [e4]
      conv => lhs; arg 2; rw [← e]
      rw [List.take_left]
    have e3 := List.take_append_drop (place l c) l
    rw [e2] at e3
    exact List.append_cancel_left (e.trans e3.symm)
  rw [h2, List.drop_eq_getElem_cons h] at h1
  simp only [List.head?_cons] at h1
  have : ¬ (cmpI l[place l c].f0 c < 0) := by simpa using h1
  rw [cmpI_neg] at this
  omega
theorem cmpI_zero {a b : Int} : cmpI a b = 0 ↔ a = b := by unfold cmpI; split <;> (try split) <;> omega
theorem has_iff {l : List S122} {c : Int} (h : Rising l) : has l c = true ↔ ∃ e ∈ l, e.f0 = c := by
  constructor
  · intro hh
    obtain ⟨h1, h2⟩ := there_get hh
    exact ⟨_, List.getElem_mem h1, cmpI_zero.1 h2⟩
  · rintro ⟨e, he, rfl⟩
    obtain ⟨j, hj, rfl⟩ := List.getElem_of_mem he
    have e1 : place l l[j].f0 = j := ahead_of _ l j (by omega) (fun m hm hlt => cmpI_neg.2 (List.pairwise_iff_getElem.1 h m j hm hj hlt)) (fun m hm hge => by
      rw [cmpI_neg]
      rcases Nat.eq_or_lt_of_le hge with rfl | hlt
      · omega
      · have := List.pairwise_iff_getElem.1 h j m hj hm hlt; omega)
    unfold has there
    have e2 : ahead (fun x : S122 => cmpI x.f0 l[j].f0) l = j := e1
    rw [e2, List.getElem?_eq_getElem hj]
    simp [cmpI_zero]
theorem has_at {l : List S122} {c : Int} (h : has l c = true) : ∃ e ∈ l, e.f0 = c ∧ l.getD (place l c) z122 = e ∧ ∃ hp : place l c < l.length, l[place l c] = e := by
  obtain ⟨h1, h2⟩ := there_get h
  have h1' : place l c < l.length := h1
  refine ⟨l[place l c], List.getElem_mem h1', cmpI_zero.1 h2, ?_, h1', rfl⟩
  rw [List.getD_eq_getElem?_getD, List.getElem?_eq_getElem h1']; rfl
theorem rising_put {l : List S122} {c q : Int} (h : Rising l) (hn : has l c = false) : Rising (putEdge l c q) := by
  unfold Rising putEdge
  rw [List.pairwise_append]
  have hmid : ∀ e ∈ l.drop (place l c), c < e.f0 := by
    intro e he
    obtain ⟨j, hj, rfl⟩ := List.getElem_of_mem he
    rw [List.getElem_drop]
    rw [List.length_drop] at hj
    have hp : place l c < l.length := by omega
    have h0 := place_hi hp
    have hne : l[place l c].f0 ≠ c := fun e => by
      have : has l c = true := (has_iff h).2 ⟨_, List.getElem_mem hp, e⟩
      rw [hn] at this; cases this
    rcases Nat.eq_zero_or_pos j with rfl | hj0
    · simp only [Nat.add_zero]; omega
    · have := List.pairwise_iff_getElem.1 h (place l c) (place l c + j) hp (by omega) (by omega)
      omega
  have hlo : ∀ e ∈ l.take (place l c), e.f0 < c := by
    intro e he
    obtain ⟨j, hj, rfl⟩ := List.getElem_of_mem he
    rw [List.length_take] at hj
    rw [List.getElem_take]
    exact place_lo j (by omega) (by omega)
  refine ⟨List.Pairwise.sublist (List.take_sublist _ _) h, ?_, ?_⟩
  · rw [List.pairwise_cons]
    exact ⟨fun e he => hmid e he, List.Pairwise.sublist (List.drop_sublist _ _) h⟩
  · intro a ha b hb
    have h1 := hlo a ha
    rcases List.mem_cons.1 hb with rfl | hb
    · exact h1
    · have := hmid b hb; omega
theorem mem_put {l : List S122} {c q : Int} {e : S122} : e ∈ putEdge l c q ↔ e ∈ l ∨ e = ⟨c, q⟩ := by
  unfold putEdge
  have := List.take_append_drop (place l c) l
  constructor
  · intro h
    rcases List.mem_append.1 h with h | h
    · exact .inl (List.mem_of_mem_take h)
    · rcases List.mem_cons.1 h with h | h
      · exact .inr h
      · exact .inl (List.mem_of_mem_drop h)
  · rintro (h | rfl)
    · rw [← this] at h
      rcases List.mem_append.1 h with h | h
      · exact List.mem_append_left _ h
      · exact List.mem_append_right _ (List.mem_cons_of_mem _ h)
    · exact List.mem_append_right _ (List.mem_cons_self ..)
theorem put_length (l : List S122) (c q : Int) : (putEdge l c q).length = l.length + 1 := by
  unfold putEdge; simp; have := place_le l c; omega

/-- A trie whose nodes have these texts. -/
structure Sp (x : List S106) (ts : List (List Int)) : Prop where
  len : ts.length = x.length
  nd : ts.Nodup
  root : ts[0]? = some []
  edge : ∀ (i : Nat) (y : S106), x[i]? = some y → ∀ e ∈ y.f3, ∃ q : Nat, e.f1 = q ∧ ∃ s, ts[i]? = some s ∧ ts[q]? = some (s ++ [e.f0])
  conv : ∀ (i : Nat) (y : S106) (s : List Int) (c : Int), x[i]? = some y → ts[i]? = some s → s ++ [c] ∈ ts → ∃ e ∈ y.f3, e.f0 = c
  depth : ∀ (i : Nat) (y : S106) (s : List Int), x[i]? = some y → ts[i]? = some s → y.f2 = s.length
  closed : ∀ (s : List Int) (c : Int), s ++ [c] ∈ ts → s ∈ ts
  rise : ∀ y ∈ x, Rising y.f3
  few : ∀ y ∈ x, y.f3.length ≤ x.length
theorem nodup_at {ts : List (List Int)} (h : ts.Nodup) {i j : Nat} {s : List Int} (hi : ts[i]? = some s) (hj : ts[j]? = some s) : i = j := by
  obtain ⟨hi', ei⟩ := List.getElem?_eq_some_iff.1 hi
  obtain ⟨hj', ej⟩ := List.getElem?_eq_some_iff.1 hj
  exact (List.getElem_inj h).1 (ei.trans ej.symm)
theorem grown_length (x : List S106) (i : Nat) (y : S106) (c : Int) : (grownT x i y c).length = x.length + 1 := by simp [grownT]
theorem grown_at {x : List S106} {i : Nat} {y : S106} {c : Int} (hi : i < x.length) {j : Nat} {z : S106} (h : (grownT x i y c)[j]? = some z) :
    (j = i ∧ z = ⟨y.f0, y.f1, y.f2, putEdge y.f3 c x.length, y.f4⟩) ∨ (j = x.length ∧ z = ⟨i, c, y.f2 + 1, [], []⟩) ∨ (j ≠ i ∧ x[j]? = some z) := by
  unfold grownT at h
  by_cases hij : i = j
  · subst hij
    rw [List.getElem?_set_self (by simp; omega)] at h
    exact .inl ⟨rfl, (Option.some.inj h).symm⟩
  · rw [List.getElem?_set_ne hij] at h
    rcases Nat.lt_or_ge j x.length with hj | hj
    · rw [List.getElem?_append_left hj] at h
      exact .inr (.inr ⟨fun e => hij e.symm, h⟩)
    · rw [List.getElem?_append_right hj] at h
      cases hk : j - x.length with
      | zero =>
        rw [hk] at h
        exact .inr (.inl ⟨by omega, by simpa using h.symm⟩)
      | succ k => rw [hk] at h; simp at h
theorem Sp.grown {x : List S106} {ts : List (List Int)} (h : Sp x ts) {i : Nat} {y : S106} {s : List Int} {c : Int} (hy : x[i]? = some y) (hs : ts[i]? = some s) (hn : has y.f3 c = false) : Sp (grownT x i y c) (ts ++ [s ++ [c]]) := by
  obtain ⟨hi, ey⟩ := List.getElem?_eq_some_iff.1 hy
  have hl := h.len
  have hr : Rising y.f3 := h.rise y (List.mem_of_getElem? hy)
  have hnew : s ++ [c] ∉ ts := fun hm => by
    obtain ⟨e, he, h2⟩ := h.conv i y s c hy hs hm
    have := (has_iff hr).2 ⟨e, he, h2⟩
    rw [hn] at this; cases this
  have hsm : s ∈ ts := List.mem_of_getElem? hs
  have old : ∀ {j : Nat} {u : List Int}, j < x.length → (ts ++ [s ++ [c]])[j]? = some u → ts[j]? = some u := by
    intro j u hj hu
    rwa [List.getElem?_append_left (by omega)] at hu
  have up : ∀ {j : Nat} {u : List Int}, ts[j]? = some u → (ts ++ [s ++ [c]])[j]? = some u := by
    intro j u hu
    obtain ⟨hj, _⟩ := List.getElem?_eq_some_iff.1 hu
    rwa [List.getElem?_append_left hj]
  have last : (ts ++ [s ++ [c]])[x.length]? = some (s ++ [c]) := by
    rw [List.getElem?_append_right (by omega), hl, Nat.sub_self]; rfl
  refine ⟨by simp [grown_length, hl], ?_, up h.root, ?_, ?_, ?_, ?_, ?_, ?_⟩
  · rw [List.nodup_append]
    exact ⟨h.nd, by simp, by rintro a ha b hb rfl; rw [List.mem_singleton] at hb; subst hb; exact hnew ha⟩
  · intro j z hz e he
    rcases grown_at hi hz with ⟨rfl, rfl⟩ | ⟨rfl, rfl⟩ | ⟨hj, hz⟩
    · rcases mem_put.1 he with he | rfl
      · obtain ⟨q, h1, s', h2, h3⟩ := h.edge j y hy e he
        exact ⟨q, h1, s', up h2, up h3⟩
      · exact ⟨x.length, rfl, s, up hs, last⟩
    · simp at he
    · obtain ⟨q, h1, s', h2, h3⟩ := h.edge j z hz e he
      exact ⟨q, h1, s', up h2, up h3⟩
  · intro j z u d hz hu hm
    rcases grown_at hi hz with ⟨rfl, rfl⟩ | ⟨rfl, rfl⟩ | ⟨hj, hz⟩
    · have hu' := old hi hu
      rw [hs] at hu'
      obtain rfl := Option.some.inj hu'
      rcases List.mem_append.1 hm with hm | hm
      · obtain ⟨e, he, h2⟩ := h.conv j y s d hy hs hm
        exact ⟨e, mem_put.2 (.inl he), h2⟩
      · rw [List.mem_singleton] at hm
        have hd : d = c := by have := List.append_cancel_left hm; simpa using this
        exact ⟨⟨c, x.length⟩, mem_put.2 (.inr rfl), hd.symm⟩
    · rw [last] at hu
      obtain rfl := Option.some.inj hu
      rcases List.mem_append.1 hm with hm | hm
      · exact absurd (h.closed _ _ hm) hnew
      · rw [List.mem_singleton] at hm
        have := congrArg List.length hm
        simp at this
    · have hjx : j < x.length := (List.getElem?_eq_some_iff.1 hz).1
      have hu' := old hjx hu
      rcases List.mem_append.1 hm with hm | hm
      · exact h.conv j z u d hz hu' hm
      · rw [List.mem_singleton] at hm
        have : u = s := (List.append_inj' hm rfl).1
        subst this
        exact absurd (nodup_at h.nd hu' hs) hj
  · intro j z u hz hu
    rcases grown_at hi hz with ⟨rfl, rfl⟩ | ⟨rfl, rfl⟩ | ⟨hj, hz⟩
    · exact h.depth j y u hy (old hi hu)
    · rw [last] at hu
      obtain rfl := Option.some.inj hu
      have := h.depth i y s hy hs
      simp [this]
    · have hjx : j < x.length := (List.getElem?_eq_some_iff.1 hz).1
      exact h.depth j z u hz (old hjx hu)
  · intro u d hm
    rcases List.mem_append.1 hm with hm | hm
    · exact List.mem_append_left _ (h.closed u d hm)
    · rw [List.mem_singleton] at hm
      have : u = s := (List.append_inj' hm rfl).1
      subst this
      exact List.mem_append_left _ hsm
  · intro z hz
    obtain ⟨j, hz⟩ := List.getElem?_of_mem hz
    rcases grown_at hi hz with ⟨rfl, rfl⟩ | ⟨rfl, rfl⟩ | ⟨hj, hz⟩
    · exact rising_put hr hn
    · exact List.Pairwise.nil
    · exact h.rise z (List.mem_of_getElem? hz)
  · intro z hz
    rw [grown_length]
    obtain ⟨j, hz⟩ := List.getElem?_of_mem hz
    rcases grown_at hi hz with ⟨rfl, rfl⟩ | ⟨rfl, rfl⟩ | ⟨hj, hz⟩
    · show (putEdge y.f3 c _).length ≤ _
      rw [put_length]
      have := h.few y (List.mem_of_getElem? hy); omega
    · simp
    · have := h.few z (List.mem_of_getElem? hz); omega
/-- The texts with a pattern's beginnings. -/
def tsAdd : List (List Int) → List Int → List Int → List (List Int)
  | ts, _, [] => ts
  | ts, s, c :: r => if s ++ [c] ∈ ts then tsAdd ts (s ++ [c]) r else tsAdd (ts ++ [s ++ [c]]) (s ++ [c]) r
theorem lay_sp (pl : List Int) : ∀ (x : List S106) (ts : List (List Int)) (i : Nat) (s : List Int), Sp x ts → ts[i]? = some s →
    Sp (lay x i pl).1 (tsAdd ts s pl) ∧ (tsAdd ts s pl)[(lay x i pl).2]? = some (s ++ pl) ∧ (lay x i pl).1.length ≤ x.length + pl.length := by
  induction pl with
  | nil => intro x ts i s h hs; exact ⟨h, by simpa [tsAdd, lay] using hs, by simp [lay]⟩
  | cons c r ih =>
    intro x ts i s h hs
    have hi : i < x.length := by have := (List.getElem?_eq_some_iff.1 hs).1; have := h.len; omega
    have hy : x[i]? = some x[i] := List.getElem?_eq_getElem hi
    have hr := h.rise _ (List.mem_of_getElem? hy)
    rw [lay, hy]
    simp only
    rw [tsAdd]
    by_cases hh : has x[i].f3 c = true
    · rw [if_pos hh]
      obtain ⟨e, he, h1, h2, _⟩ := has_at hh
      obtain ⟨q, e1, s', e2, e3⟩ := h.edge i _ hy e he
      rw [hs] at e2
      obtain rfl := Option.some.inj e2
      rw [h2, e1, Int.toNat_natCast]
      rw [h1] at e3
      rw [if_pos (List.mem_of_getElem? e3)]
      obtain ⟨a1, a2, a3⟩ := ih x ts q (s ++ [c]) h e3
      exact ⟨a1, by rw [a2]; simp, by simp; omega⟩
    · rw [if_neg hh]
      have hn : has x[i].f3 c = false := by simpa using hh
      have hnm : s ++ [c] ∉ ts := fun hm => hh ((has_iff hr).2 (by
        obtain ⟨e, he, h2⟩ := h.conv i _ s c hy hs hm
        exact ⟨e, he, h2⟩))
      rw [if_neg hnm]
      have last : (ts ++ [s ++ [c]])[x.length]? = some (s ++ [c]) := by
        rw [List.getElem?_append_right (by have := h.len; omega), h.len, Nat.sub_self]; rfl
      obtain ⟨a1, a2, a3⟩ := ih (grownT x i x[i] c) (ts ++ [s ++ [c]]) x.length (s ++ [c]) (h.grown hy hs hn) last
      refine ⟨a1, by rw [a2]; simp, ?_⟩
      rw [grown_length] at a3
      simp; omega
theorem Sp.ends {x : List S106} {ts : List (List Int)} (h : Sp x ts) {i : Nat} {y : S106} (hy : x[i]? = some y) (m : List Int) : Sp (x.set i ⟨y.f0, y.f1, y.f2, y.f3, m⟩) ts := by
  have back : ∀ {j : Nat} {z : S106}, (x.set i ⟨y.f0, y.f1, y.f2, y.f3, m⟩)[j]? = some z → ∃ z', x[j]? = some z' ∧ z.f2 = z'.f2 ∧ z.f3 = z'.f3 := by
    intro j z hz
    by_cases hij : i = j
    · subst hij
      rw [List.getElem?_set_self (List.getElem?_eq_some_iff.1 hy).1] at hz
      obtain rfl := Option.some.inj hz
      exact ⟨y, hy, rfl, rfl⟩
    · rw [List.getElem?_set_ne hij] at hz
      exact ⟨z, hz, rfl, rfl⟩
  refine ⟨by rw [List.length_set]; exact h.len, h.nd, h.root, ?_, ?_, ?_, h.closed, ?_, ?_⟩
  · intro j z hz e he
    obtain ⟨z', h1, h2, h3⟩ := back hz
    rw [h3] at he
    exact h.edge j z' h1 e he
  · intro j z s c hz hs hm
    obtain ⟨z', h1, h2, h3⟩ := back hz
    rw [h3]
    exact h.conv j z' s c h1 hs hm
  · intro j z s hz hs
    obtain ⟨z', h1, h2, h3⟩ := back hz
    rw [h2]
    exact h.depth j z' s h1 hs
  · intro z hz
    obtain ⟨j, hz⟩ := List.getElem?_of_mem hz
    obtain ⟨z', h1, h2, h3⟩ := back hz
    rw [h3]
    exact h.rise z' (List.mem_of_getElem? h1)
  · intro z hz
    obtain ⟨j, hz⟩ := List.getElem?_of_mem hz
    obtain ⟨z', h1, h2, h3⟩ := back hz
    rw [h3, List.length_set]
    exact h.few z' (List.mem_of_getElem? h1)
theorem addT_sp {x : List S106} {ts : List (List Int)} (h : Sp x ts) (n : Int) (pl : List Int) : Sp (addT x n pl) (tsAdd ts [] pl) ∧ (addT x n pl).length ≤ x.length + pl.length := by
  obtain ⟨a1, a2, a3⟩ := lay_sp pl x ts 0 [] h h.root
  unfold addT
  simp only
  have hi : (lay x 0 pl).2 < (lay x 0 pl).1.length := by have := (List.getElem?_eq_some_iff.1 a2).1; have := a1.len; omega
  rw [List.getElem?_eq_getElem hi]
  simp only
  exact ⟨a1.ends (List.getElem?_eq_getElem hi) _, by rw [List.length_set]; exact a3⟩
/-- What a text's node has for its ends. -/
def En (x : List S106) (ts : List (List Int)) (f : List Int → List Int) : Prop := (∀ (i : Nat) (y : S106) (s : List Int), x[i]? = some y → ts[i]? = some s → y.f4 = f s) ∧ ∀ (s : List Int), s ∉ ts → f s = []
theorem lay_en (pl : List Int) : ∀ (x : List S106) (ts : List (List Int)) (i : Nat) (s : List Int) (f : List Int → List Int), Sp x ts → ts[i]? = some s → En x ts f → En (lay x i pl).1 (tsAdd ts s pl) f := by
  induction pl with
  | nil => intro x ts i s f _ _ h; exact h
  | cons c r ih =>
    intro x ts i s f h hs hE
    have hi : i < x.length := by have := (List.getElem?_eq_some_iff.1 hs).1; have := h.len; omega
    have hy : x[i]? = some x[i] := List.getElem?_eq_getElem hi
    have hr := h.rise _ (List.mem_of_getElem? hy)
    rw [lay, hy]
    simp only
    rw [tsAdd]
    by_cases hh : has x[i].f3 c = true
    · rw [if_pos hh]
      obtain ⟨e, he, h1, h2, _⟩ := has_at hh
      obtain ⟨q, e1, s', e2, e3⟩ := h.edge i _ hy e he
      rw [hs] at e2
      obtain rfl := Option.some.inj e2
      rw [h2, e1, Int.toNat_natCast]
      rw [h1] at e3
      rw [if_pos (List.mem_of_getElem? e3)]
      exact ih x ts q (s ++ [c]) f h e3 hE
    · rw [if_neg hh]
      have hn : has x[i].f3 c = false := by simpa using hh
      have hnm : s ++ [c] ∉ ts := fun hm => hh ((has_iff hr).2 (by
        obtain ⟨e, he, h2⟩ := h.conv i _ s c hy hs hm
        exact ⟨e, he, h2⟩))
      rw [if_neg hnm]
      have last : (ts ++ [s ++ [c]])[x.length]? = some (s ++ [c]) := by
        rw [List.getElem?_append_right (by have := h.len; omega), h.len, Nat.sub_self]; rfl
      refine ih (grownT x i x[i] c) (ts ++ [s ++ [c]]) x.length (s ++ [c]) f (h.grown hy hs hn) last ⟨?_, ?_⟩
      · intro j z u hz hu
        rcases grown_at hi hz with ⟨rfl, rfl⟩ | ⟨rfl, rfl⟩ | ⟨hj, hz⟩
        · rw [List.getElem?_append_left (by have := h.len; omega)] at hu
          exact hE.1 j x[j] u hy hu
        · rw [last] at hu
          obtain rfl := Option.some.inj hu
          exact (hE.2 _ hnm).symm
        · have hjx : j < x.length := (List.getElem?_eq_some_iff.1 hz).1
          rw [List.getElem?_append_left (by have := h.len; omega)] at hu
          exact hE.1 j z u hz hu
      · intro u hu
        exact hE.2 u (fun hm => hu (List.mem_append_left _ hm))
theorem addT_en {x : List S106} {ts : List (List Int)} {f : List Int → List Int} (h : Sp x ts) (hE : En x ts f) (n : Int) (pl : List Int) : En (addT x n pl) (tsAdd ts [] pl) (fun s => if s = pl then f s ++ [n] else f s) := by
  obtain ⟨a1, a2, a3⟩ := lay_sp pl x ts 0 [] h h.root
  have b := lay_en pl x ts 0 [] f h h.root hE
  rw [List.nil_append] at a2
  unfold addT
  simp only
  have hi : (lay x 0 pl).2 < (lay x 0 pl).1.length := by have := (List.getElem?_eq_some_iff.1 a2).1; have := a1.len; omega
  rw [List.getElem?_eq_getElem hi]
  simp only
  refine ⟨fun j z u hz hu => ?_, fun u hu => ?_⟩
  · by_cases hij : (lay x 0 pl).2 = j
    · subst hij
      rw [List.getElem?_set_self hi] at hz
      obtain rfl := Option.some.inj hz
      rw [a2] at hu
      obtain rfl := Option.some.inj hu
      show _ = if pl = pl then f pl ++ [n] else f pl
      rw [if_pos rfl, ← b.1 _ _ _ (List.getElem?_eq_getElem hi) a2]
    · rw [List.getElem?_set_ne hij] at hz
      show _ = if u = pl then f u ++ [n] else f u
      rw [if_neg (fun e => hij (nodup_at a1.nd a2 (by rw [e] at hu; exact hu)))]
      exact b.1 j z u hz hu
  · show (if u = pl then f u ++ [n] else f u) = []
    rw [if_neg (fun e => hu (by rw [e]; exact List.mem_of_getElem? a2))]
    exact b.2 u hu
end Go.Proofs.Ytgfmplhpoblleaa.FailW
end
section
/- The longest ends of texts that are a trie's; the failures and outputs of its nodes. -/
namespace Go.Proofs.Ytgfmplhpoblleaa.FailW
open Go.RowKit Go.Shelf Go.Lib Go.Proofs Go.Proofs.YtgfmplhpoblleaaW.PrintWords Go.Proofs.YtgfmplhpoblleaaW.PrintLast Go.Proofs.YtgfmplhpoblleaaW.PrintMore Go.Proofs.Ytgfmplhpoblleaa.PRank Go.Proofs.Ytgfmplhpoblleaa.PFB Go.Proofs.Ytgfmplhpoblleaa.RankW Go.Proofs.Ytgfmplhpoblleaa.SortOwn Go.Proofs.Ytgfmplhpoblleaa
open Go.Proofs.Ytgfmplhpoblleaa.Cmps hiding dedup
set_option linter.unusedVariables false
set_option linter.unusedSimpArgs false

/-- The longest end of a text that is one of the texts. -/
def lngT (ts : List (List Int)) : List Int → List Int
  | [] => []
  | a :: r => if a :: r ∈ ts then a :: r else lngT ts r
theorem lngT_mem {ts : List (List Int)} (h0 : [] ∈ ts) : ∀ s, lngT ts s ∈ ts
  | [] => h0
  | a :: r => by
    rw [lngT]; split
    · assumption
    · exact lngT_mem h0 r
theorem lngT_self {ts : List (List Int)} {s : List Int} (h : s ∈ ts) : lngT ts s = s := by
  cases s with
  | nil => rfl
  | cons a r => rw [lngT, if_pos h]
theorem lngT_len (ts : List (List Int)) : ∀ s, (lngT ts s).length ≤ s.length
  | [] => Nat.le_refl _
  | a :: r => by
    rw [lngT]; split
    · exact Nat.le_refl _
    · have := lngT_len ts r; simp; omega
theorem lngT_snoc {ts : List (List Int)} (hc : ∀ s c, s ++ [c] ∈ ts → s ∈ ts) (c : Int) : ∀ t, lngT ts (t ++ [c]) = lngT ts (lngT ts t ++ [c])
  | [] => rfl
  | a :: r => by
    by_cases h : a :: r ∈ ts
    · rw [lngT_self h]
    · have h1 : lngT ts (a :: r) = lngT ts r := by rw [lngT, if_neg h]
      have h2 : ¬ (a :: r ++ [c] ∈ ts) := fun hm => h (hc _ _ hm)
      rw [h1, ← lngT_snoc hc c r]
      rw [show a :: r ++ [c] = a :: (r ++ [c]) from rfl] at h2 ⊢
      rw [lngT, if_neg h2]
theorem lngT_step {ts : List (List Int)} (hc : ∀ s c, s ++ [c] ∈ ts → s ∈ ts) {u : List Int} (c : Int) (hu : u ≠ []) (hn : u ++ [c] ∉ ts) : lngT ts (u ++ [c]) = lngT ts (lngT ts u.tail ++ [c]) := by
  cases u with
  | nil => exact absurd rfl hu
  | cons a r =>
    rw [List.tail_cons, ← lngT_snoc hc c r]
    rw [show a :: r ++ [c] = a :: (r ++ [c]) from rfl] at hn ⊢
    rw [lngT, if_neg hn]

theorem idx_of {ts : List (List Int)} (h : ts.Nodup) {i : Nat} {s : List Int} (hs : ts[i]? = some s) : ts.idxOf s = i := by
  have hm : s ∈ ts := List.mem_of_getElem? hs
  have h1 : ts.idxOf s < ts.length := List.idxOf_lt_length_of_mem hm
  exact nodup_at h (by rw [List.getElem?_eq_getElem h1, List.getElem_idxOf h1]) hs
theorem at_idx {ts : List (List Int)} {s : List Int} (h : s ∈ ts) : ts[ts.idxOf s]? = some s := by
  have h1 : ts.idxOf s < ts.length := List.idxOf_lt_length_of_mem h
  rw [List.getElem?_eq_getElem h1, List.getElem_idxOf h1]

section
variable {x : List S106} {ts : List (List Int)}
theorem Sp.nil (h : Sp x ts) : [] ∈ ts := List.mem_of_getElem? h.root
theorem Sp.idx0 (h : Sp x ts) : ts.idxOf ([] : List Int) = 0 := idx_of h.nd h.root
theorem nodeOf_nat {x : List S106} {m : Nat} (hm : m < x.length) : nodeOf x (m : Int) = x[m] := by
  unfold nodeOf
  rw [if_neg (by omega), Int.toNat_natCast, List.getD_eq_getElem?_getD, List.getElem?_eq_getElem hm]; rfl
theorem Sp.lt (h : Sp x ts) {m : Nat} {u : List Int} (hu : ts[m]? = some u) : m < x.length := by have := (List.getElem?_eq_some_iff.1 hu).1; have := h.len; omega
theorem Sp.step (h : Sp x ts) {m : Nat} {u : List Int} (hu : ts[m]? = some u) (c : Int) : stepOf x m c = if u ++ [c] ∈ ts then some ((ts.idxOf (u ++ [c]) : Nat) : Int) else none := by
  have hm := h.lt hu
  have hx : x[m]? = some x[m] := List.getElem?_eq_getElem hm
  have hr := h.rise _ (List.mem_of_getElem? hx)
  unfold stepOf
  rw [nodeOf_nat hm]
  by_cases hh : has x[m].f3 c = true
  · obtain ⟨e, he, h1, h2, hp, h3⟩ := has_at hh
    obtain ⟨q, e1, s', e2, e3⟩ := h.edge m _ hx e he
    rw [hu] at e2
    obtain rfl := Option.some.inj e2
    rw [h1] at e3
    rw [if_pos hh, if_pos (List.mem_of_getElem? e3), idx_of h.nd e3, List.getElem?_eq_getElem hp, h3, Option.map_some, e1]
  · rw [if_neg hh, if_neg]
    intro hm2
    obtain ⟨e, he, h1⟩ := h.conv m _ u c hx hu hm2
    exact hh ((has_iff hr).2 ⟨e, he, h1⟩)

/-- A node's failure is its longest end. -/
def FlAt (ts : List (List Int)) (fl : List Int) (m : Nat) (u : List Int) : Prop := atI fl m = ((ts.idxOf (lngT ts u.tail) : Nat) : Int)
/-- How many steps back it takes. -/
def cnt (ts : List (List Int)) (c : Int) : Nat → List Int → Nat
  | 0, _ => 0
  | k + 1, u => if u ++ [c] ∈ ts ∨ u = [] then 0 else 1 + cnt ts c k (lngT ts u.tail)
theorem goF_eq (h : Sp x ts) {fl : List Int} (hfl : fl.length = x.length) (c : Int) (D : Nat) (hF : ∀ m u, ts[m]? = some u → u ≠ [] → u.length ≤ D → FlAt ts fl m u) :
    ∀ (k : Nat) (m : Nat) (u : List Int) (tk : Int), ts[m]? = some u → u.length ≤ D → u.length < k → goF x fl c k m tk = some (((ts.idxOf (lngT ts (u ++ [c])) : Nat) : Int), tk + cnt ts c k u)
  | 0, m, u, tk, _, _, hk => absurd hk (by omega)
  | k + 1, m, u, tk, hu, hD, hk => by
    rw [goF, h.step hu c]
    by_cases hm : u ++ [c] ∈ ts
    · rw [if_pos hm, lngT_self hm]
      simp [cnt, hm]
    · rw [if_neg hm]
      simp only
      by_cases hu0 : u = []
      · subst hu0
        have : m = 0 := nodup_at h.nd hu h.root
        subst this
        rw [if_pos (by rfl)]
        rw [List.nil_append] at hm ⊢
        rw [lngT, if_neg hm, lngT, h.idx0]
        simp [cnt]
      · have hm0 : (m : Int) ≠ 0 := fun e => by
          have : m = 0 := by omega
          subst this
          rw [h.root] at hu
          exact hu0 (Option.some.inj hu).symm
        have hlt := h.lt hu
        rw [if_neg hm0, if_pos (isNode_iff.2 ⟨by omega, by omega⟩), hF m u hu hu0 hD]
        have hl := lngT_len ts u.tail
        have hpos : 0 < u.length := List.length_pos_iff.2 hu0
        rw [List.length_tail] at hl
        rw [goF_eq h hfl c D hF k _ (lngT ts u.tail) (tk + 1) (at_idx (lngT_mem h.nil _)) (by omega) (by omega)]
        rw [lngT_step h.closed c hu0 hm, cnt, if_neg (by simp [hm, hu0])]
        congr 2
        push_cast
        omega

/-- The links as they grow. -/
structure St where
  fl : List Int
  ol : List Int
  od : List Int
def visitE (x : List S106) (K : Nat) (n : Int) (s : St) (e : S122) : Option St :=
  let f : Option Int := if n = 0 then some (atI s.fl e.f1) else if isNode s.fl (atI s.fl n) = true then (goF x s.fl e.f0 K (atI s.fl n) 1).map (·.1) else some 0
  f.bind fun f => if isNode s.fl n = true ∧ isNode s.fl e.f1 = true ∧ isNode s.fl f = true then
    some ⟨s.fl.set e.f1.toNat f, s.ol.set e.f1.toNat (if (nodeOf x e.f1).f4.length > 0 then e.f1 else atI s.ol f), s.od ++ [e.f1]⟩ else none
def visitL (x : List S106) (K : Nat) (n : Int) : St → List S122 → Option St
  | s, [] => some s
  | s, e :: r => (visitE x K n s e).bind fun s => visitL x K n s r
def bfs (x : List S106) (K : Nat) : Nat → Nat → St → Option St
  | 0, _, _ => none
  | k + 1, i, s => match s.od[i]? with
    | none => some s
    | some n => (visitL x K n s (nodeOf x n).f3).bind fun s => bfs x K k (i + 1) s
def st0 (N : Nat) : St := ⟨List.replicate N 0, (List.replicate N 0).set 0 (-1), [0]⟩
/-- The links of a trie, but for their order. -/
def linksF (x : List S106) : Option St := bfs x (x.length + 1) (x.length + 1) 0 (st0 x.length)

/-- The depth of a node. -/
def dp (ts : List (List Int)) (n : Int) : Nat := (ts.getD n.toNat []).length
theorem dp_at {ts : List (List Int)} {m : Nat} {u : List Int} (h : ts[m]? = some u) : dp ts m = u.length := by
  unfold dp; rw [Int.toNat_natCast, List.getD_eq_getElem?_getD, h]; rfl
/-- A node's output. -/
def OlAt (x : List S106) (ts : List (List Int)) (ol : List Int) (m : Nat) (u : List Int) : Prop :=
  atI ol m = if u = [] then -1 else if (nodeOf x m).f4.length > 0 then (m : Int) else atI ol (ts.idxOf (lngT ts u.tail) : Nat)
/-- Is it behind one of the first i, or behind by one of these edges? -/
def Behind (x : List S106) (od : List Int) (i : Nat) (done : List S122) (m : Int) : Prop :=
  (∃ (j : Nat) (p : Int), j < i ∧ od[j]? = some p ∧ ∃ e ∈ (nodeOf x p).f3, e.f1 = m) ∨ ∃ e ∈ done, e.f1 = m
structure BInv (x : List S106) (ts : List (List Int)) (s : St) (i : Nat) (done : List S122) : Prop where
  fll : s.fl.length = x.length
  oll : s.ol.length = x.length
  nodes : ∀ q ∈ s.od, ∃ (m : Nat) (u : List Int), q = m ∧ ts[m]? = some u ∧ FlAt ts s.fl m u ∧ OlAt x ts s.ol m u ∧ (u ≠ [] → Behind x s.od i done q)
  sorted : s.od.Pairwise (fun a b => dp ts a ≤ dp ts b)
  nd : s.od.Nodup
  root : s.od[0]? = some 0
  kids : ∀ (j : Nat) (p : Int), j < i → s.od[j]? = some p → ∀ e ∈ (nodeOf x p).f3, e.f1 ∈ s.od
  near : ∀ n, s.od[i]? = some n → ∀ q ∈ s.od, dp ts q ≤ dp ts n + 1
  zero : ∀ m : Nat, (m : Int) ∉ s.od → atI s.fl m = 0
  dones : ∀ e ∈ done, e.f1 ∈ s.od
theorem BInv.all {s : St} {i : Nat} {done : List S122} (h : Sp x ts) (hI : BInv x ts s i done) {n : Int} (hn : s.od[i]? = some n) : ∀ (k : Nat) (m : Nat) (v : List Int), ts[m]? = some v → v.length ≤ k → k ≤ dp ts n → (m : Int) ∈ s.od
  | 0, m, v, hv, h1, _ => by
    have : v = [] := List.length_eq_zero_iff.1 (by omega)
    subst this
    have : m = 0 := nodup_at h.nd hv h.root
    subst this
    exact List.mem_of_getElem? hI.root
  | k + 1, m, v, hv, h1, h2 => by
    rcases List.eq_nil_or_concat v with rfl | ⟨u, c, rfl⟩
    · exact hI.all h hn k m [] hv (by simp) (by omega)
    · simp only [List.concat_eq_append] at hv h1
      have hu : u ∈ ts := h.closed u c (List.mem_of_getElem? hv)
      have hup := at_idx hu
      have hlen : u.length + 1 = (u ++ [c]).length := by simp
      have hp : ((ts.idxOf u : Nat) : Int) ∈ s.od := hI.all h hn k _ u hup (by simp at h1; omega) (by omega)
      obtain ⟨j, hj, ej⟩ := List.getElem_of_mem hp
      obtain ⟨hi, ei⟩ := List.getElem?_eq_some_iff.1 hn
      have hji : j < i := by
        rcases Nat.lt_or_ge j i with hlt | hge
        · exact hlt
        · exfalso
          have : dp ts s.od[i] ≤ dp ts s.od[j] := by
            rcases Nat.eq_or_lt_of_le hge with rfl | hlt
            · exact Nat.le_refl _
            · exact List.pairwise_iff_getElem.1 hI.sorted i j hi hj hlt
          rw [ei, ej, dp_at hup] at this
          simp at h1; omega
      have hx := h.lt hup
      obtain ⟨e, he, h3⟩ := h.conv _ _ u c (List.getElem?_eq_getElem hx) hup (List.mem_of_getElem? hv)
      obtain ⟨q, e1, s', e2, e3⟩ := h.edge _ _ (List.getElem?_eq_getElem hx) e he
      rw [hup] at e2
      obtain rfl := Option.some.inj e2
      rw [h3] at e3
      have := nodup_at h.nd e3 hv
      subst this
      rw [← e1]
      refine hI.kids j _ hji (by rw [List.getElem?_eq_getElem hj, ej]) e ?_
      rw [nodeOf_nat hx]; exact he
theorem atI_set_ne {l : List Int} {q m : Nat} {v : Int} (h : q ≠ m) : atI (l.set q v) m = atI l m := by
  unfold atI
  rw [Int.toNat_natCast, List.getD_eq_getElem?_getD, List.getD_eq_getElem?_getD, List.getElem?_set_ne h]
theorem atI_set_self {l : List Int} {q : Nat} {v : Int} (h : q < l.length) : atI (l.set q v) q = v := by
  unfold atI
  rw [Int.toNat_natCast, List.getD_eq_getElem?_getD, List.getElem?_set_self h]; rfl
theorem tail_snoc {u : List Int} (h : u ≠ []) (c : Int) : (u ++ [c]).tail = u.tail ++ [c] := by
  cases u with
  | nil => exact absurd rfl h
  | cons a r => rfl

theorem visitE_ok (h : Sp x ts) {K : Nat} (hK : x.length < K) (hKD : ∀ u ∈ ts, u.length < K) {s : St} {i : Nat} {n : Int} {done rest : List S122} {e : S122} (hI : BInv x ts s i done) (hn : s.od[i]? = some n) (he : (nodeOf x n).f3 = done ++ e :: rest) :
    ∃ s', visitE x K n s e = some s' ∧ BInv x ts s' i (done ++ [e]) ∧ s'.od[i]? = some n := by
  obtain ⟨m, u, rfl, hu, hfl, hol, _⟩ := hI.nodes n (List.mem_of_getElem? hn)
  have hm := h.lt hu
  have hxm : x[m]? = some x[m] := List.getElem?_eq_getElem hm
  rw [nodeOf_nat hm] at he
  have hem : e ∈ x[m].f3 := by rw [he]; exact List.mem_append_right _ (List.mem_cons_self ..)
  obtain ⟨q, e1, s', e2, e3⟩ := h.edge _ _ hxm e hem
  rw [hu] at e2
  obtain rfl := Option.some.inj e2
  have hq := h.lt e3
  have hdn : dp ts m = u.length := dp_at hu
  have hdq : dp ts q = u.length + 1 := by rw [dp_at e3]; simp
  have hrise := h.rise _ (List.mem_of_getElem? hxm)
  obtain ⟨hi, ei⟩ := List.getElem?_eq_some_iff.1 hn
  have hall := hI.all h hn u.length
  rw [hdn] at hall
  -- q has not been met
  have hnew : (q : Int) ∉ s.od := by
    intro hmem
    obtain ⟨m', u', e4, h4, _, _, hB⟩ := hI.nodes _ hmem
    have : m' = q := by omega
    subst this
    rw [e3] at h4
    obtain rfl := Option.some.inj h4
    rcases hB (by simp) with ⟨j, p, hj, hp, e', he', h5⟩ | ⟨e', he', h5⟩
    · obtain ⟨mp, up, rfl, hup, _, _, _⟩ := hI.nodes p (List.mem_of_getElem? hp)
      have hmp := h.lt hup
      rw [nodeOf_nat hmp] at he'
      obtain ⟨q', e6, s'', e7, e8⟩ := h.edge _ _ (List.getElem?_eq_getElem hmp) e' he'
      rw [hup] at e7
      obtain rfl := Option.some.inj e7
      have : q' = m' := by omega
      subst this
      rw [e3] at e8
      have e9 := (List.append_inj' (Option.some.inj e8) rfl).1
      subst e9
      have : mp = m := nodup_at h.nd hup hu
      subst this
      obtain ⟨hj', ej⟩ := List.getElem?_eq_some_iff.1 hp
      have := (List.getElem_inj (h₀ := hj') (h₁ := hi) hI.nd).1 (ej.trans ei.symm)
      omega
    · have he2 : e' ∈ x[m].f3 := by rw [he]; exact List.mem_append_left _ he'
      obtain ⟨q', e6, s'', e7, e8⟩ := h.edge _ _ hxm e' he2
      rw [hu] at e7
      obtain rfl := Option.some.inj e7
      have : q' = m' := by omega
      subst this
      rw [e3] at e8
      have e9 : e.f0 = e'.f0 := by have := (List.append_inj' (Option.some.inj e8) rfl).2; simpa using this
      unfold Rising at hrise
      rw [he, List.pairwise_append] at hrise
      have := hrise.2.2 e' he' e (List.mem_cons_self ..)
      omega
  -- its failure
  obtain ⟨F, hFd⟩ : ∃ F, F = ts.idxOf (lngT ts (u ++ [e.f0]).tail) := ⟨_, rfl⟩
  have hFm : lngT ts (u ++ [e.f0]).tail ∈ ts := lngT_mem h.nil _
  have hFt : ts[F]? = some (lngT ts (u ++ [e.f0]).tail) := by rw [hFd]; exact at_idx hFm
  have hFl : (lngT ts (u ++ [e.f0]).tail).length ≤ u.length := by
    have := lngT_len ts (u ++ [e.f0]).tail
    rw [List.length_tail] at this; simp at this ⊢; omega
  have hFin : (F : Int) ∈ s.od := hall F _ hFt hFl (Nat.le_refl _)
  have hFx := h.lt hFt
  have hf : (if (m : Int) = 0 then some (atI s.fl e.f1) else if isNode s.fl (atI s.fl m) = true then (goF x s.fl e.f0 K (atI s.fl m) 1).map (·.1) else some 0) = some (F : Int) := by
    by_cases hm0 : (m : Int) = 0
    · rw [if_pos hm0, e1, hI.zero q hnew, hFd]
      have : m = 0 := by omega
      subst this
      rw [h.root] at hu
      obtain rfl := Option.some.inj hu
      rw [List.nil_append, List.tail_cons, lngT, h.idx0]; rfl
    · have hu0 : u ≠ [] := fun e => by
        subst e
        have : m = 0 := nodup_at h.nd hu h.root
        omega
      have hpos : 0 < u.length := List.length_pos_iff.2 hu0
      have hl := lngT_len ts u.tail
      rw [List.length_tail] at hl
      have hat := at_idx (lngT_mem h.nil u.tail)
      have hlt2 := h.lt hat
      have hfl' : atI s.fl m = ((ts.idxOf (lngT ts u.tail) : Nat) : Int) := hfl
      have hlm := hKD _ (lngT_mem h.nil u.tail)
      rw [if_neg hm0, hfl', if_pos (isNode_iff.2 ⟨by omega, by rw [hI.fll]; omega⟩)]
      rw [goF_eq h hI.fll e.f0 u.length (fun p v hv hv0 hvl => by
        obtain ⟨p', v', e4, h4, h5, _, _⟩ := hI.nodes _ (hall p v hv hvl (Nat.le_refl _))
        have : p' = p := by omega
        subst this
        rw [hv] at h4
        obtain rfl := Option.some.inj h4
        exact h5) K _ _ 1 hat (by omega) hlm]
      rw [← lngT_snoc h.closed, ← tail_snoc hu0, ← hFd]; rfl
  refine ⟨⟨s.fl.set q F, s.ol.set q (if (nodeOf x q).f4.length > 0 then (q : Int) else atI s.ol F), s.od ++ [(q : Int)]⟩, ?_, ?_, ?_⟩
  · unfold visitE
    simp only
    rw [hf, e1]
    rw [Option.bind_some, if_pos ⟨isNode_iff.2 ⟨by omega, by rw [hI.fll]; omega⟩, isNode_iff.2 ⟨by omega, by rw [hI.fll]; omega⟩, isNode_iff.2 ⟨by omega, by rw [hI.fll]; omega⟩⟩, Int.toNat_natCast]
  · have up : ∀ {j : Nat} {p : Int}, s.od[j]? = some p → (s.od ++ [(q : Int)])[j]? = some p := by
      intro j p hp
      obtain ⟨hj, _⟩ := List.getElem?_eq_some_iff.1 hp
      rwa [List.getElem?_append_left hj]
    have down : ∀ {j : Nat} {p : Int}, j ≤ i → (s.od ++ [(q : Int)])[j]? = some p → s.od[j]? = some p := by
      intro j p hj hp
      rwa [List.getElem?_append_left (by omega)] at hp
    refine ⟨by simp [hI.fll], by simp [hI.oll], ?_, ?_, ?_, up hI.root, ?_, ?_, ?_, ?_⟩
    · intro q' hq'
      rcases List.mem_append.1 hq' with hq' | hq'
      · obtain ⟨m', u', rfl, h4, h5, h6, h7⟩ := hI.nodes q' hq'
        have hne : q ≠ m' := fun e => hnew (by rw [e]; exact hq')
        refine ⟨m', u', rfl, h4, ?_, ?_, ?_⟩
        · unfold FlAt at h5 ⊢
          rw [atI_set_ne hne]; exact h5
        · unfold OlAt at h6 ⊢
          by_cases hu0 : u' = []
          · rw [if_pos hu0, atI_set_ne hne]; rw [if_pos hu0] at h6; exact h6
          · have hpos : 0 < u'.length := List.length_pos_iff.2 hu0
            have hl := lngT_len ts u'.tail
            rw [List.length_tail] at hl
            have hnear := hI.near _ hn m' hq'
            rw [dp_at h4, hdn] at hnear
            have hin := hall _ _ (at_idx (lngT_mem h.nil u'.tail)) (by omega) (Nat.le_refl _)
            have hne2 : q ≠ ts.idxOf (lngT ts u'.tail) := fun e => hnew (by rw [e]; exact hin)
            rw [atI_set_ne hne, atI_set_ne hne2]; exact h6
        · intro hu0
          rcases h7 hu0 with ⟨j, p, hj, hp, e', he', h8⟩ | ⟨e', he', h8⟩
          · exact .inl ⟨j, p, hj, up hp, e', he', h8⟩
          · exact .inr ⟨e', List.mem_append_left _ he', h8⟩
      · rw [List.mem_singleton] at hq'
        subst hq'
        have hne : q ≠ F := fun e => hnew (by rw [e]; exact hFin)
        refine ⟨q, _, rfl, e3, ?_, ?_, fun _ => .inr ⟨e, by simp, e1⟩⟩
        · unfold FlAt
          rw [atI_set_self (by rw [hI.fll]; exact hq), hFd]
        · unfold OlAt
          rw [atI_set_self (by rw [hI.oll]; exact hq), ← hFd, atI_set_ne hne, if_neg (show ¬ u ++ [e.f0] = [] by simp)]
    · rw [List.pairwise_append]
      refine ⟨hI.sorted, List.pairwise_singleton _ _, ?_⟩
      intro a ha b hb
      rw [List.mem_singleton] at hb
      subst hb
      have := hI.near _ hn a ha
      omega
    · rw [List.nodup_append]
      exact ⟨hI.nd, by simp, by rintro a ha b hb rfl; rw [List.mem_singleton] at hb; subst hb; exact hnew ha⟩
    · intro j p hj hp e' he'
      exact List.mem_append_left _ (hI.kids j p hj (down (by omega) hp) e' he')
    · intro n' hn' q' hq'
      rw [down (Nat.le_refl _) hn'] at hn
      obtain rfl := Option.some.inj hn
      rcases List.mem_append.1 hq' with hq' | hq'
      · exact hI.near _ (down (Nat.le_refl _) hn') q' hq'
      · rw [List.mem_singleton] at hq'
        subst hq'; omega
    · intro m' hm'
      have h1 : (m' : Int) ∉ s.od := fun h => hm' (List.mem_append_left _ h)
      have h2 : q ≠ m' := fun e => hm' (by rw [e]; simp)
      show atI (s.fl.set q F) m' = 0
      rw [atI_set_ne h2]; exact hI.zero m' h1
    · intro e' he'
      rcases List.mem_append.1 he' with he' | he'
      · exact List.mem_append_left _ (hI.dones e' he')
      · rw [List.mem_singleton] at he'
        subst he'
        rw [e1]; exact List.mem_append_right _ (by simp)
  · show (s.od ++ [(q : Int)])[i]? = _
    rw [List.getElem?_append_left hi]; exact hn

theorem visitL_ok (h : Sp x ts) {K : Nat} (hK : x.length < K) (hKD : ∀ u ∈ ts, u.length < K) {i : Nat} {n : Int} : ∀ (rest done : List S122) (s : St), BInv x ts s i done → s.od[i]? = some n → (nodeOf x n).f3 = done ++ rest →
    ∃ s', visitL x K n s rest = some s' ∧ BInv x ts s' i (nodeOf x n).f3 ∧ s'.od[i]? = some n
  | [], done, s, hI, hn, he => ⟨s, rfl, by rw [he, List.append_nil]; exact hI, hn⟩
  | e :: r, done, s, hI, hn, he => by
    obtain ⟨s1, h1, h2, h3⟩ := visitE_ok h hK hKD hI hn he
    obtain ⟨s2, h4, h5, h6⟩ := visitL_ok h hK hKD r (done ++ [e]) s1 h2 h3 (by rw [he]; simp)
    exact ⟨s2, by rw [visitL, h1]; exact h4, h5, h6⟩
theorem nodup_len : ∀ (N : Nat) (l : List Int), l.Nodup → (∀ q ∈ l, ∃ m : Nat, q = m ∧ m < N) → l.length ≤ N
  | 0, l, _, h => by
    cases l with
    | nil => simp
    | cons a r => obtain ⟨m, _, h1⟩ := h a (List.mem_cons_self ..); omega
  | N + 1, l, hn, h => by
    by_cases hm : (N : Int) ∈ l
    · have h1 := nodup_len N (l.erase N) (hn.erase _) (fun q hq => by
        obtain ⟨m, rfl, hlt⟩ := h q (List.mem_of_mem_erase hq)
        refine ⟨m, rfl, ?_⟩
        rcases Nat.eq_or_lt_of_le (Nat.le_of_lt_succ hlt) with rfl | hlt
        · exact absurd hq (hn.not_mem_erase)
        · exact hlt)
      rw [List.length_erase_of_mem hm] at h1
      omega
    · have h1 := nodup_len N l hn (fun q hq => by
        obtain ⟨m, rfl, hlt⟩ := h q hq
        refine ⟨m, rfl, ?_⟩
        rcases Nat.eq_or_lt_of_le (Nat.le_of_lt_succ hlt) with rfl | hlt
        · exact absurd hq hm
        · exact hlt)
      omega
theorem BInv.len {s : St} {i : Nat} {done : List S122} (h : Sp x ts) (hI : BInv x ts s i done) : s.od.length ≤ x.length :=
  nodup_len _ _ hI.nd fun q hq => by
    obtain ⟨m, u, rfl, hu, _⟩ := hI.nodes q hq
    exact ⟨m, rfl, h.lt hu⟩
theorem BInv.next {s : St} {i : Nat} {n : Int} (h : Sp x ts) (hI : BInv x ts s i (nodeOf x n).f3) (hn : s.od[i]? = some n) : BInv x ts s (i + 1) [] := by
  refine ⟨hI.fll, hI.oll, ?_, hI.sorted, hI.nd, hI.root, ?_, ?_, hI.zero, by simp⟩
  · intro q hq
    obtain ⟨m, u, h1, h2, h3, h4, h5⟩ := hI.nodes q hq
    refine ⟨m, u, h1, h2, h3, h4, fun hu => ?_⟩
    rcases h5 hu with ⟨j, p, hj, hp, e⟩ | ⟨e, he, e1⟩
    · exact .inl ⟨j, p, by omega, hp, e⟩
    · exact .inl ⟨i, n, by omega, hn, e, he, e1⟩
  · intro j p hj hp e he
    rcases Nat.lt_or_ge j i with hlt | hge
    · exact hI.kids j p hlt hp e he
    · have : j = i := by omega
      subst this
      rw [hn] at hp
      obtain rfl := Option.some.inj hp
      exact hI.dones e he
  · intro n' hn' q hq
    obtain ⟨hi, ei⟩ := List.getElem?_eq_some_iff.1 hn
    obtain ⟨hi', ei'⟩ := List.getElem?_eq_some_iff.1 hn'
    have h1 := List.pairwise_iff_getElem.1 hI.sorted i (i + 1) hi hi' (by omega)
    rw [ei, ei'] at h1
    have := hI.near _ hn q hq
    omega
/-- The links are what they should be. -/
structure LFin (x : List S106) (ts : List (List Int)) (s : St) : Prop where
  fll : s.fl.length = x.length
  oll : s.ol.length = x.length
  fl : ∀ m u, ts[m]? = some u → FlAt ts s.fl m u
  ol : ∀ m u, ts[m]? = some u → OlAt x ts s.ol m u
  nd : s.od.Nodup
  all : ∀ m : Nat, m < x.length → (m : Int) ∈ s.od
  mem : ∀ q ∈ s.od, ∃ m : Nat, q = m ∧ m < x.length
theorem BInv.fin {s : St} {i : Nat} (h : Sp x ts) (hI : BInv x ts s i []) (hn : s.od[i]? = none) : LFin x ts s := by
  have hall : ∀ (k m : Nat) (v : List Int), ts[m]? = some v → v.length ≤ k → (m : Int) ∈ s.od := by
    intro k
    induction k with
    | zero =>
      intro m v hv h1
      have : v = [] := List.length_eq_zero_iff.1 (by omega)
      subst this
      have : m = 0 := nodup_at h.nd hv h.root
      subst this
      exact List.mem_of_getElem? hI.root
    | succ k ih =>
      intro m v hv h1
      rcases List.eq_nil_or_concat v with rfl | ⟨u, c, rfl⟩
      · exact ih m [] hv (by simp)
      · simp only [List.concat_eq_append] at hv h1
        have hu : u ∈ ts := h.closed u c (List.mem_of_getElem? hv)
        have hup := at_idx hu
        have hp : ((ts.idxOf u : Nat) : Int) ∈ s.od := ih _ u hup (by simp at h1; omega)
        obtain ⟨j, hj, ej⟩ := List.getElem_of_mem hp
        have hge := List.getElem?_eq_none_iff.1 hn
        have hx := h.lt hup
        obtain ⟨e, he, h3⟩ := h.conv _ _ u c (List.getElem?_eq_getElem hx) hup (List.mem_of_getElem? hv)
        obtain ⟨q, e1, s', e2, e3⟩ := h.edge _ _ (List.getElem?_eq_getElem hx) e he
        rw [hup] at e2
        obtain rfl := Option.some.inj e2
        rw [h3] at e3
        have := nodup_at h.nd e3 hv
        subst this
        rw [← e1]
        refine hI.kids j _ (by omega) (by rw [List.getElem?_eq_getElem hj, ej]) e ?_
        rw [nodeOf_nat hx]; exact he
  have hat : ∀ m u, ts[m]? = some u → FlAt ts s.fl m u ∧ OlAt x ts s.ol m u := by
    intro m u hu
    obtain ⟨m', u', e1, h1, h2, h3, _⟩ := hI.nodes _ (hall u.length m u hu (Nat.le_refl _))
    have : m' = m := by omega
    subst this
    rw [hu] at h1
    obtain rfl := Option.some.inj h1
    exact ⟨h2, h3⟩
  refine ⟨hI.fll, hI.oll, fun m u hu => (hat m u hu).1, fun m u hu => (hat m u hu).2, hI.nd, ?_, ?_⟩
  · intro m hm
    have : m < ts.length := by rw [h.len]; exact hm
    exact hall _ m _ (List.getElem?_eq_getElem this) (Nat.le_refl _)
  · intro q hq
    obtain ⟨m, u, rfl, hu, _⟩ := hI.nodes q hq
    exact ⟨m, rfl, h.lt hu⟩
theorem bfs_ok (h : Sp x ts) {K : Nat} (hK : x.length < K) (hKD : ∀ u ∈ ts, u.length < K) : ∀ (k i : Nat) (s : St), BInv x ts s i [] → i + k = x.length + 1 → i ≤ s.od.length → ∃ s', bfs x K k i s = some s' ∧ LFin x ts s'
  | 0, i, s, hI, hk, hi => by have := hI.len h; omega
  | k + 1, i, s, hI, hk, hi => by
    rw [bfs]
    cases hn : s.od[i]? with
    | none => exact ⟨s, rfl, hI.fin h hn⟩
    | some n =>
      obtain ⟨s1, h1, h2, h3⟩ := visitL_ok h hK hKD (nodeOf x n).f3 [] s hI hn rfl
      have hlt := (List.getElem?_eq_some_iff.1 h3).1
      obtain ⟨s2, h4, h5⟩ := bfs_ok h hK hKD k (i + 1) s1 (h2.next h h3) (by omega) (by omega)
      exact ⟨s2, by simp only; rw [h1]; exact h4, h5⟩
/-- No text is longer than there are texts. -/
theorem Sp.short (h : Sp x ts) {u : List Int} (hu : u ∈ ts) : u.length < x.length := by
  have hp : ∀ k, k ≤ u.length → u.take k ∈ ts := by
    intro k hk
    obtain ⟨d, hd⟩ : ∃ d, d = u.length - k := ⟨_, rfl⟩
    induction d generalizing k with
    | zero => rw [List.take_of_length_le (by omega)]; exact hu
    | succ d ih =>
      have h1 := ih (k + 1) (by omega) (by omega)
      have hk2 : k < u.length := by omega
      rw [List.take_add_one, List.getElem?_eq_getElem hk2] at h1
      exact h.closed _ _ h1
  have h1 : ((List.range (u.length + 1)).map fun k => ((ts.idxOf (u.take k) : Nat) : Int)).length ≤ x.length := by
    refine nodup_len _ _ ?_ ?_
    · unfold List.Nodup
      rw [List.pairwise_iff_getElem]
      intro i j hi hj hlt e
      simp at hi hj
      rw [List.getElem_map, List.getElem_map, List.getElem_range, List.getElem_range] at e
      have hi2 := at_idx (hp i (by omega))
      have hj2 := at_idx (hp j (by omega))
      have e' : ts.idxOf (u.take i) = ts.idxOf (u.take j) := by omega
      rw [e', hj2] at hi2
      have := congrArg List.length (Option.some.inj hi2)
      simp at this; omega
    · intro q hq
      obtain ⟨k, hk, rfl⟩ := List.mem_map.1 hq
      rw [List.mem_range] at hk
      exact ⟨_, rfl, h.lt (at_idx (hp k (by omega)))⟩
  simp at h1; omega
theorem links_ok (h : Sp x ts) : ∃ s, linksF x = some s ∧ LFin x ts s := by
  have h0 := h.lt h.root
  refine bfs_ok h (Nat.lt_succ_self _) (fun u hu => Nat.lt_succ_of_lt (h.short hu)) _ 0 _ ?_ (by omega) (by simp)
  refine ⟨by simp [st0], by simp [st0], ?_, List.pairwise_singleton _ _, by simp [st0], rfl, by intro j p hj; omega, ?_, ?_, by simp⟩
  · intro q hq
    simp [st0] at hq
    subst hq
    refine ⟨0, [], rfl, h.root, ?_, ?_, fun e => absurd rfl e⟩
    · unfold FlAt st0 atI
      rw [List.tail_nil, lngT, h.idx0]
      simp [List.getElem?_replicate, h0]
    · unfold OlAt st0 atI
      rw [if_pos rfl]
      simp [h0]
  · intro n hn q hq
    simp [st0] at hn hq
    subst hn hq
    omega
  · intro m hm
    unfold st0 atI
    simp only [Int.toNat_natCast, List.getD_eq_getElem?_getD, List.getElem?_replicate]
    split <;> rfl
end
end Go.Proofs.Ytgfmplhpoblleaa.FailW
end
section
/- Links that are safe to go on with. -/
namespace Go.Proofs.Ytgfmplhpoblleaa.FailW
open Go.RowKit Go.Shelf Go.Lib Go.Proofs Go.Proofs.YtgfmplhpoblleaaW.PrintWords Go.Proofs.YtgfmplhpoblleaaW.PrintLast Go.Proofs.YtgfmplhpoblleaaW.PrintMore Go.Proofs.Ytgfmplhpoblleaa.PRank Go.Proofs.Ytgfmplhpoblleaa.PFB Go.Proofs.Ytgfmplhpoblleaa.RankW Go.Proofs.Ytgfmplhpoblleaa.SortOwn Go.Proofs.Ytgfmplhpoblleaa
open Go.Proofs.Ytgfmplhpoblleaa.Cmps hiding dedup
set_option linter.unusedVariables false
set_option linter.unusedSimpArgs false

/-- Links that are safe to go on with. -/
structure SInv (x : List S106) (ts : List (List Int)) (s : St) : Prop where
  fll : s.fl.length = x.length
  oll : s.ol.length = x.length
  fl : ∀ (m : Nat) (u : List Int), ts[m]? = some u → ∃ (f : Nat) (v : List Int), atI s.fl m = f ∧ ts[f]? = some v ∧ v.length ≤ u.length ∧ (u ≠ [] → v.length < u.length)
  od : ∀ q ∈ s.od, ∃ m : Nat, q = m ∧ m < x.length
section
variable {x : List S106} {ts : List (List Int)}
theorem goF_some (h : Sp x ts) {fl : List Int} (hfl : fl.length = x.length) (hF : ∀ (m : Nat) (u : List Int), ts[m]? = some u → ∃ (f : Nat) (v : List Int), atI fl m = f ∧ ts[f]? = some v ∧ v.length ≤ u.length ∧ (u ≠ [] → v.length < u.length)) (c : Int) :
    ∀ (k m : Nat) (u : List Int) (tk : Int), ts[m]? = some u → u.length < k → ∃ (q : Nat) (v : List Int) (tk' : Int), goF x fl c k m tk = some ((q : Int), tk') ∧ ts[q]? = some v ∧ v.length ≤ u.length + 1
  | 0, m, u, tk, _, hk => absurd hk (by omega)
  | k + 1, m, u, tk, hu, hk => by
    rw [goF, h.step hu c]
    by_cases hm : u ++ [c] ∈ ts
    · rw [if_pos hm]
      exact ⟨_, u ++ [c], tk, rfl, at_idx hm, by simp⟩
    · rw [if_neg hm]
      simp only
      by_cases hm0 : (m : Int) = 0
      · rw [if_pos hm0]
        exact ⟨0, [], tk, rfl, h.root, by simp⟩
      · have hu0 : u ≠ [] := fun e => by
          subst e
          have : m = 0 := nodup_at h.nd hu h.root
          omega
        have hlt := h.lt hu
        obtain ⟨f, v, e1, hv, h1, h2⟩ := hF m u hu
        rw [if_neg hm0, if_pos (isNode_iff.2 ⟨by omega, by omega⟩), e1]
        have h3 := h2 hu0
        obtain ⟨q, v', tk', h4, h5, h6⟩ := goF_some h hfl hF c k f v (tk + 1) hv (by omega)
        exact ⟨q, v', tk', h4, h5, by omega⟩
theorem visitE_safe (h : Sp x ts) {K : Nat} (hKD : ∀ u ∈ ts, u.length < K) {s : St} (hS : SInv x ts s) {n : Nat} (hn : n < x.length) {e : S122} (he : e ∈ (nodeOf x n).f3) : ∃ s', visitE x K n s e = some s' ∧ SInv x ts s' ∧ ∃ q : Nat, e.f1 = q ∧ q < x.length ∧ s'.od = s.od ++ [(q : Int)] := by
  rw [nodeOf_nat hn] at he
  have hxn : x[n]? = some x[n] := List.getElem?_eq_getElem hn
  obtain ⟨q, e1, u, hu, hq⟩ := h.edge _ _ hxn e he
  have hql := h.lt hq
  have hnl : n < ts.length := by rw [h.len]; exact hn
  obtain ⟨fn, vn, f1, f2, f3, f4⟩ := hS.fl n u hu
  -- its failure
  have hf : ∃ (F : Nat) (v : List Int), (if (n : Int) = 0 then some (atI s.fl e.f1) else if isNode s.fl (atI s.fl n) = true then (goF x s.fl e.f0 K (atI s.fl n) 1).map (·.1) else some 0) = some (F : Int) ∧ ts[F]? = some v ∧ v.length < (u ++ [e.f0]).length := by
    by_cases hn0 : (n : Int) = 0
    · rw [if_pos hn0, e1]
      obtain ⟨f, v, g1, g2, g3, g4⟩ := hS.fl q _ hq
      exact ⟨f, v, by rw [g1], g2, g4 (by simp)⟩
    · have hu0 : u ≠ [] := fun e => by
        subst e
        have : n = 0 := nodup_at h.nd hu h.root
        omega
      have hlt := h.lt f2
      rw [if_neg hn0, f1, if_pos (isNode_iff.2 ⟨by omega, by rw [hS.fll]; omega⟩)]
      obtain ⟨q', v', tk', g1, g2, g3⟩ := goF_some h hS.fll hS.fl e.f0 K fn vn 1 f2 (hKD _ (List.mem_of_getElem? f2))
      have := f4 hu0
      exact ⟨q', v', by rw [g1]; rfl, g2, by simp; omega⟩
  obtain ⟨F, v, hf, hv, hvl⟩ := hf
  have hFx := h.lt hv
  refine ⟨⟨s.fl.set q F, s.ol.set q (if (nodeOf x q).f4.length > 0 then (q : Int) else atI s.ol F), s.od ++ [(q : Int)]⟩, ?_, ?_, q, e1, hql, rfl⟩
  · unfold visitE
    simp only
    rw [hf, e1]
    rw [Option.bind_some, if_pos ⟨isNode_iff.2 ⟨by omega, by rw [hS.fll]; omega⟩, isNode_iff.2 ⟨by omega, by rw [hS.fll]; omega⟩, isNode_iff.2 ⟨by omega, by rw [hS.fll]; omega⟩⟩, Int.toNat_natCast]
  · refine ⟨by simp [hS.fll], by simp [hS.oll], ?_, ?_⟩
    · intro m w hw
      by_cases hqm : q = m
      · subst hqm
        rw [hq] at hw
        obtain rfl := Option.some.inj hw
        exact ⟨F, v, atI_set_self (by rw [hS.fll]; exact hql), hv, by omega, fun _ => hvl⟩
      · obtain ⟨f, v', g1, g2, g3, g4⟩ := hS.fl m w hw
        exact ⟨f, v', (atI_set_ne hqm).trans g1, g2, g3, g4⟩
    · intro q' hq'
      rcases List.mem_append.1 hq' with hq' | hq'
      · exact hS.od q' hq'
      · rw [List.mem_singleton] at hq'
        exact ⟨q, hq', hql⟩
theorem visitL_snoc (K : Nat) (n : Int) (e : S122) : ∀ (l : List S122) (s : St), visitL x K n s (l ++ [e]) = (visitL x K n s l).bind fun s => visitE x K n s e
  | [], s => by simp [visitL]
  | a :: r, s => by
    rw [List.cons_append, visitL, visitL]
    cases visitE x K n s a with
    | none => rfl
    | some s1 => simp only [Option.bind_some]; exact visitL_snoc K n e r s1
theorem sinv0 (h : Sp x ts) : SInv x ts (st0 x.length) := by
  have h0 := h.lt h.root
  refine ⟨by simp [st0], by simp [st0], ?_, ?_⟩
  · intro m u hu
    refine ⟨0, [], ?_, h.root, by simp, fun hu0 => List.length_pos_iff.2 hu0⟩
    unfold st0 atI
    simp only [Int.toNat_natCast, List.getD_eq_getElem?_getD, List.getElem?_replicate]
    split <;> rfl
  · intro q hq
    simp [st0] at hq
    exact ⟨0, by omega, h0⟩
end
end Go.Proofs.Ytgfmplhpoblleaa.FailW
end
section
/- fail: the iterator over a node's edges. -/
namespace Go.Proofs.Ytgfmplhpoblleaa.FailW
open Go.RowKit Go.Shelf Go.Lib Go.Proofs Go.Proofs.YtgfmplhpoblleaaW.PrintWords Go.Proofs.YtgfmplhpoblleaaW.PrintLast Go.Proofs.YtgfmplhpoblleaaW.PrintMore Go.Proofs.Ytgfmplhpoblleaa.PRank Go.Proofs.Ytgfmplhpoblleaa.PFB Go.Proofs.Ytgfmplhpoblleaa.RankW Go.Proofs.Ytgfmplhpoblleaa.SortOwn Go.Proofs.Ytgfmplhpoblleaa
open Go.Proofs.Ytgfmplhpoblleaa.Cmps hiding dedup
set_option linter.unusedVariables false
set_option linter.unusedSimpArgs false
attribute [local go_sem] Oper.semAt_some

set_option maxHeartbeats 1000000 in
set_option maxRecDepth 100000 in
/-- find, told of the world in which the trie was made. -/
theorem find0 (a : Addr) (x : List S106) (n : Int) (w0 w : World) (hT : TrieAt w0 a x) (hb : Go.RowKit.Below w0.heap.size w0 w) :
    Calls Try.prog 86 #[.pointer (some a), .int .i64 n] w fun e w' => ∃ A3 c3 A4 c4, e = .returned (.agg #[.int .i64 (nodeOf x n).f0, .int .i64 (nodeOf x n).f1, .int .i64 (nodeOf x n).f2, .slice A3 (nodeOf x n).f3.length c3, .slice A4 (nodeOf x n).f4.length c4]) ∧
      (nodeOf x n).f3.length ≤ c3 ∧ Kd.C k122 w0 A3 (nodeOf x n).f3.length (nodeOf x n).f3 ∧ (nodeOf x n).f4.length ≤ c4 ∧ Kd.C (Kd.int .i64) w0 A4 (nodeOf x n).f4.length (nodeOf x n).f4 ∧ Grows w w' := by
  obtain ⟨A, c, ha0, hl, hC⟩ := hT
  have ha := cell_below hb ha0
  have HC := Aside0.mk (And.intro hl (And.intro hC hb))
  clear hl hC hb ha0
  have hu := Try.underlying106
  by_cases h0 : n < 0
  · have h1 : decide (n < 0) = true := decide_eq_true h0
    go_enter Try.func86, Try.ntmps86
    go_wp2
    refine bodyPost_ret (results_cell_row rfl _ _ w.heap.size 106 _ _ _ rfl (heap_alloc_new _ _) hu rfl (by kernel_rfl)) rfl ?_
    rw [nodeOf_none (.inl h0)]
    exact ⟨none, 0, none, 0, rfl, Nat.le_refl 0, Kd.C_nil k122 w0, Nat.le_refl 0, Kd.C_nil (Kd.int .i64) w0, new_grows _ _⟩
  · have h1 : decide (n < 0) = false := decide_eq_false h0
    by_cases h2 : (x.length : Int) ≤ n
    · have h3 : decide ((x.length : Int) ≤ n) = true := decide_eq_true h2
      have A1 := cell_grows (new_grows w (.cells #[.int .i64 0, .int .i64 0, .int .i64 0, .slice none 0 0, .slice none 0 0] 106)) ha
      go_enter Try.func86, Try.ntmps86
      go_wp2
      refine bodyPost_ret (results_cell_row rfl _ _ w.heap.size 106 _ _ _ rfl (heap_alloc_new _ _) hu rfl (by kernel_rfl)) rfl ?_
      rw [nodeOf_none (.inr h2)]
      exact ⟨none, 0, none, 0, rfl, Nat.le_refl 0, Kd.C_nil k122 w0, Nat.le_refl 0, Kd.C_nil (Kd.int .i64) w0, new_grows _ _⟩
    · have h3 : decide ((x.length : Int) ≤ n) = false := decide_eq_false h2
      obtain ⟨ad, A3, c3, A4, c4, rfl, a0, a1, a2, a3, a4, l3, g3, l4, g4⟩ := at_T106 HC.out.2.1 n (by omega) (by omega)
      have hN : nodeOf x n = rd_T106 x n := by unfold nodeOf rd_T106; rw [if_neg h0]
      rw [hN]
      generalize rd_T106 x n = y at *
      have HY := Aside0.mk (And.intro l3 (And.intro g3 (And.intro l4 g4)))
      clear l3 g3 l4 g4
      have b0 : (0 : Int) ≤ n := by omega
      have b1 : n < (x.length : Int) := by omega
      have G0 := new_grows w (.cells #[.int .i64 0, .int .i64 0, .int .i64 0, .slice none 0 0, .slice none 0 0] 106)
      have A1 := cell_grows G0 ha
      replace a0 := cell_grows G0 (cell_below HC.out.2.2 a0)
      replace a1 := cell_grows G0 (cell_below HC.out.2.2 a1)
      replace a2 := cell_grows G0 (cell_below HC.out.2.2 a2)
      replace a3 := cell_grows G0 (cell_below HC.out.2.2 a3)
      replace a4 := cell_grows G0 (cell_below HC.out.2.2 a4)
      have HG := Aside0.mk G0
      clear G0 ha
      go_enter Try.func86, Try.ntmps86
      go_wp2
      refine bodyPost_ret (results_cell_row rfl _ _ w.heap.size 106 _ _ _ rfl (heap_alloc_new _ _) hu rfl (by kernel_rfl)) rfl ?_
      exact ⟨A3, c3, A4, c4, rfl, HY.out.1, HY.out.2.1, HY.out.2.2.1, HY.out.2.2.2, new_grows _ _⟩

/-- The edges of a node. -/
abbrev EdgeOf (l : List S122) := { e : S122 // e ∈ l }
def encE {l : List S122} (e : EdgeOf l) : Array Value := #[.int .i64 e.1.f0, .int .i64 e.1.f1]
theorem grows_grown {w w' : World} (h : Grows w w') : w.grownBy w' none := grown_of_below h.below none

set_option maxHeartbeats 2000000 in
set_option maxRecDepth 100000 in
theorem edges_in (l B1 B2 : Nat) (t : Addr) (x : List S106) (m : Int) (w0 : World) (hT : TrieAt w0 t x) (hG : Good x) (J Jx : List (EdgeOf (nodeOf x m).f3) → World → Prop) (N0 : Nat)
    (hJ : AbidesFrom N0 J) (W : World) (hb : Go.RowKit.Below w0.heap.size w0 W)
    (hY : ∀ pre e W1, J pre W1 → pre.length < (nodeOf x m).f3.length → YieldAt Fence.wide 2 Try.prog l (encE e) W1 fun en W' =>
      (en = .returned (.bool true) ∧ J (pre ++ [e]) W' ∧ Go.RowKit.Below w0.heap.size W1 W') ∨ (en = .returned (.bool false) ∧ Jx (pre ++ [e]) W'))
    (hB1 : W.cell? ⟨B1, 0, none⟩ = some (.pointer (some t))) (hB2 : W.cell? ⟨B2, 0, none⟩ = some (.int .i64 m)) (h0 : J [] W) :
    CallsIn Fence.wide 3 Try.prog 121 #[.func (.yield l) #[] #[], .pointer (some ⟨B1, 0, none⟩), .pointer (some ⟨B2, 0, none⟩)] W fun e W' => (∃ v, e = .returned v) ∧
      ((∃ ys, ys = (nodeOf x m).f3.attach ∧ J ys W') ∨ (∃ pre, (∃ k, k ≤ (nodeOf x m).f3.length ∧ pre = (nodeOf x m).f3.attach.take k) ∧ Jx pre W')) := by
  have hf : ∀ (v0 v1 v2 v3 v4 : Value) (w : World), (Instr.field 106 (.agg #[v0, v1, v2, v3, v4]) 3).run Try.prog w = .ok v3 w := fun _ _ _ _ _ _ => by kernel_rfl
  have HT := Aside0.mk (And.intro hT hb)
  have HJ := Aside0.mk hJ
  have HY := Aside0.mk hY
  have H0 := Aside0.mk h0
  have hlen := (good_at hG m).2.1
  clear hT hJ hY h0 hb hG
  refine callsIn_of_wp Try.func121 rfl trivial ?_ rfl
  simp only [Try.ntmps121, List.size_toArray, List.length_cons, List.length_nil, Nat.reduceAdd, Nat.reduceSub, Array.replicate_succ, Array.replicate_zero, List.push_toArray, List.append_toArray, List.nil_append, List.cons_append]
  gi_wp2_with (refine ⟨trivial, ?_⟩; gi_at_call 86; refine (callsIn_wide.2 (find0 t x m w0 _ HT.out.1 HT.out.2)).mono ?_; rintro e w2 ⟨A3, c3, A4, c4, rfl, l3, g3, l4, g4, hg2⟩; have G2 := Aside0.mk (And.intro g3 hg2); clear hg2 l3 g3 l4 g4)
  gi_loopw [11] (fun i wr => ∃ k : Nat, k ≤ (nodeOf x m).f3.length ∧ i = .int .i64 k ∧ J ((nodeOf x m).f3.attach.take k) wr ∧ Go.RowKit.Below w0.heap.size w0 wr)
    (fun i _ => (nodeOf x m).f3.length - (intOf i).toNat)
  case atStart =>
    refine ⟨0, Nat.zero_le _, rfl, ?_, HT.out.2.trans (G2.out.2.below.mono HT.out.2.size)⟩
    exact HJ.out [] _ _ none H0.out (grows_grown G2.out.2) (fun r e => by cases e)
  case round =>
    obtain ⟨k, hk, rfl, hJs, hnx⟩ := hrel
    by_cases hlt : k < (nodeOf x m).f3.length
    · obtain ⟨ad, rfl, a0, a1⟩ := edge_at (Kd.C_below G2.out.1 hnx) k hlt
      have hJ2 := HJ.out _ _ _ none hJs (grows_grown (new_grows wr (.cells #[.int .i64 (nodeOf x m).f3[k].f0, .int .i64 (nodeOf x m).f3[k].f1] 122))) (fun r e => by cases e)
      obtain ⟨fn, tmps, assign, body, hy, hR⟩ := HY.out ((nodeOf x m).f3.attach.take k) ⟨(nodeOf x m).f3[k], List.getElem_mem _⟩ _ hJ2 (by simp; omega)
      dsimp only [encE] at hy
      have hnx2 : Go.RowKit.Below w0.heap.size w0 (wr.alloc (.cells #[.int .i64 (nodeOf x m).f3[k].f0, .int .i64 (nodeOf x m).f3[k].f1] 122)) := hnx.trans ((new_grows wr _).below.mono hnx.size)
      have hR2 := Aside0.mk hR
      have HN := Aside0.mk (And.intro hnx hnx2)
      clear hR hnx hnx2 hJs hJ2
      generalize hL : (nodeOf x m).f3 = L at *
      gi_wp2
      refine hR2.out.mono ?_
      rintro e W3 (⟨rfl, hJ3, hk3⟩ | ⟨rfl, hJx3⟩)
      · have HK := Aside0.mk (And.intro hJ3 hk3)
        clear hJ3 hk3
        gi_wp2
        go_roundw
        case rel =>
          refine ⟨k + 1, by omega, by go_num, ?_, HN.out.2.trans HK.out.2⟩
          have := HK.out.1
          rw [← List.take_append_getElem (l := L.attach) (i := k) (by simpa using hlt)]
          simpa using this
        case measure => simp [intOf]; omega
      · gi_wp2
        refine bodyPost_ret (results_none rfl _ _ _) rfl ?_
        refine ⟨⟨_, rfl⟩, .inr ⟨_, ⟨k + 1, by omega, ?_⟩, hJx3⟩⟩
        rw [← List.take_append_getElem (l := L.attach) (i := k) (by simpa using hlt)]
        simp
    · have hkl : k = (nodeOf x m).f3.length := by omega
      have HK := Aside0.mk hJs
      clear hJs hnx
      gi_wp2
      go_end0
      refine ⟨⟨_, rfl⟩, .inl ⟨_, rfl, ?_⟩⟩
      have := HK.out
      rw [hkl, List.take_of_length_le (by simp)] at this
      exact this

/-- Edges hands back an iterator. -/
theorem edges_stops (B1 B2 : Nat) (t : Addr) (x : List S106) (m : Int) (w0 w : World) (hT : TrieAt w0 t x) (hG : Good x) (hb : Go.RowKit.Below w0.heap.size w0 w)
    (hB1 : w.cell? ⟨B1, 0, none⟩ = some (.pointer (some t))) (hB2 : w.cell? ⟨B2, 0, none⟩ = some (.int .i64 m)) :
    SeqStopsK Fence.wide 3 Try.prog 121 #[.pointer (some ⟨B1, 0, none⟩), .pointer (some ⟨B2, 0, none⟩)] (encE (l := (nodeOf x m).f3)) (Go.RowKit.Below w0.heap.size) (fun ys => ys = (nodeOf x m).f3.attach)
      (fun pre => ∃ k, k ≤ (nodeOf x m).f3.length ∧ pre = (nodeOf x m).f3.attach.take k) (nodeOf x m).f3.length w := fun l J Jx W hW hJ _ hY h0 =>
  edges_in l B1 B2 t x m w0 hT hG J Jx _ hJ W (hb.trans (hW.mono hb.size)) hY (cell_below hW hB1) (cell_below hW hB2) h0

set_option maxRecDepth 100000 in
theorem edges_calls (t : Option Addr) (m : Int) (w : World) : Calls Try.prog 102 #[.pointer t, .int .i64 m] w fun e w' =>
    e = .returned (.func (.func 121) #[] #[.pointer (some ⟨w.heap.size, 0, none⟩), .pointer (some ⟨w.heap.size + 1, 0, none⟩)]) ∧ w' = (w.alloc (.cells #[.pointer t] 48)).alloc (.cells #[.int .i64 m] 3) := by
  go_enter Try.func102, Try.ntmps102
  go_wp2
  go_ret
  exact ⟨rfl, rfl⟩
end Go.Proofs.Ytgfmplhpoblleaa.FailW
end
section
/- fail: links that are being made: their memory. -/
namespace Go.Proofs.Ytgfmplhpoblleaa.FailW
open Go.RowKit Go.Shelf Go.Lib Go.Proofs Go.Proofs.YtgfmplhpoblleaaW.PrintWords Go.Proofs.YtgfmplhpoblleaaW.PrintLast Go.Proofs.YtgfmplhpoblleaaW.PrintMore Go.Proofs.Ytgfmplhpoblleaa.PRank Go.Proofs.Ytgfmplhpoblleaa.PFB Go.Proofs.Ytgfmplhpoblleaa.RankW Go.Proofs.Ytgfmplhpoblleaa.SortOwn Go.Proofs.Ytgfmplhpoblleaa
open Go.Proofs.Ytgfmplhpoblleaa.Cmps hiding dedup
set_option linter.unusedVariables false
set_option linter.unusedSimpArgs false

abbrev encI (l : List Int) : List Value := encs (Value.int .i64) l
/-- Links at block p: failures at block gf, outputs at block go, the order's row. -/
structure Lk (w0 w : World) (p gf go N : Nat) (t : Addr) (x : List S106) (s : St) (vod : Value) : Prop where
  tr : TrieAt w0 t x
  bw : Go.RowKit.Below w0.heap.size w0 w
  blk : w.heap[p]? = some (.cells #[.pointer (some t), .slice (some ⟨gf, 0, none⟩) N N, .slice (some ⟨go, 0, none⟩) N N, vod] 99 (0, 0))
  hp : w0.heap.size ≤ p
  fl : w.ownsRow w0.heap.size 3 1 (.slice (some ⟨gf, 0, none⟩) N N) N (encI s.fl)
  ol : w.ownsRow w0.heap.size 3 1 (.slice (some ⟨go, 0, none⟩) N N) N (encI s.ol)
  od : w.ownsRow w0.heap.size 3 1 vod s.od.length (encI s.od)
  ne : gf ≠ go
  nf : vod.ownBlock = none ∨ vod.ownBlock ≠ some gf
  no : vod.ownBlock = none ∨ vod.ownBlock ≠ some go
theorem encI_set (l : List Int) (q : Nat) (v : Int) : (encI l).set q (.int .i64 v) = encI (l.set q v) := by simp [encI, encs, List.map_set]
theorem encI_at (l : List Int) (q : Nat) (h : q < l.length) : (encI l)[q]? = some (.int .i64 l[q]) := by simp [encI, encs, h]
theorem encI_len (l : List Int) : (encI l).length = l.length := by simp [encI, encs]
theorem own_sz {w : World} {base g n cap : Nat} {e : TypeId} {size : Nat} {xs : List Value} (h : w.ownsRow base e size (.slice (some ⟨g, 0, none⟩) n cap) n xs) : base ≤ g := by
  obtain ⟨_, _, _, _, _, _, h1⟩ := own_blk h; exact h1
section
variable {w0 w : World} {p gf go N : Nat} {t : Addr} {x : List S106} {s : St} {vod : Value}
theorem Lk.fll (h : Lk w0 w p gf go N t x s vod) : s.fl.length = N := by have := h.fl.1; rw [encI_len, Nat.mul_one] at this; exact this
theorem Lk.oll (h : Lk w0 w p gf go N t x s vod) : s.ol.length = N := by have := h.ol.1; rw [encI_len, Nat.mul_one] at this; exact this
theorem own_type_blk {w : World} {base g g' n cap : Nat} {e t' : TypeId} {size : Nat} {xs : List Value} {cs : Array Value} (h : w.ownsRow base e size (.slice (some ⟨g, 0, none⟩) n cap) n xs) (hb : w.heap[g']? = some (.cells cs t' (0, 0))) (hne : e ≠ t') : g ≠ g' := by
  obtain ⟨cur, hh, _⟩ := own_blk h
  exact blk_ne hh hb hne
/-- What else grows. -/
theorem Lk.other {w1 : World} (h : Lk w0 w p gf go N t x s vod) {row : Option Nat} (hg : w.grownBy w1 row) (hr : ∀ r, row = some r → w0.heap.size ≤ r ∧ r ≠ p ∧ r ≠ gf ∧ r ≠ go ∧ vod.ownBlock ≠ some r) : Lk w0 w1 p gf go N t x s vod := by
  refine ⟨h.tr, ⟨hg.os.trans h.bw.os, hg.tape.trans h.bw.tape, hg.output.trans h.bw.output, Nat.le_trans h.bw.size hg.size, fun k hk => (hg.block k (Nat.lt_of_lt_of_le hk h.bw.size) (fun e => by have := (hr k e.symm).1; omega)).trans (h.bw.block k hk)⟩, blk_grown h.blk hg (fun e => (hr p e.symm).2.1 rfl), h.hp, own_other h.fl hg (.inr ?_), own_other h.ol hg (.inr ?_), own_other h.od hg ?_, h.ne, h.nf, h.no⟩
  · intro e; exact (hr gf e.symm).2.2.1 rfl
  · intro e; exact (hr go e.symm).2.2.2.1 rfl
  · cases hv : vod.ownBlock with
    | none => exact .inl rfl
    | some k => exact .inr fun e => (hr k e.symm).2.2.2.2 hv
theorem Lk.grows {w1 : World} (h : Lk w0 w p gf go N t x s vod) (hg : Grows w w1) : Lk w0 w1 p gf go N t x s vod := h.other (grown_of_below hg.below none) (fun r e => by cases e)
theorem Lk.below {w1 : World} (h : Lk w0 w p gf go N t x s vod) (hg : Go.RowKit.Below w.heap.size w w1) : Lk w0 w1 p gf go N t x s vod := h.other (grown_of_below hg none) (fun r e => by cases e)
theorem Lk.own {w1 : World} (h : Lk w0 w p gf go N t x s vod) {row : Option Nat} (hg : w.grownBy w1 row) (hr : ∀ r, row = some r → w0.heap.size ≤ r ∧ ∃ o : Obj, w.heap[r]? = some o ∧ o.isCells = false) : Lk w0 w1 p gf go N t x s vod := by
  refine h.other hg fun r e => ?_
  obtain ⟨h1, o, ho, hc⟩ := hr r e
  have nc : ∀ {cs : Array Value} {ty : TypeId} {fz : Nat × Nat} {k : Nat}, w.heap[k]? = some (.cells cs ty fz) → r ≠ k := fun hk e => by
    subst e
    rw [hk] at ho
    obtain rfl := Option.some.inj ho
    simp [Obj.isCells] at hc
  obtain ⟨c1, b1, _⟩ := own_blk h.fl
  obtain ⟨c2, b2, _⟩ := own_blk h.ol
  refine ⟨h1, nc h.blk, nc b1, nc b2, fun e => ?_⟩
  rcases h.od.2 with ⟨rfl, _⟩ | ⟨g, cap, cur, rfl, _, hh, _⟩
  · cases e
  · simp [Value.ownBlock] at e
    exact nc hh e.symm
theorem ints_of_own {base : Nat} {w : World} {a : Addr} {v : Value} {l : List Int} (h : w.ownsRow base 3 1 v l.length (encI l)) (ha : w.cell? a = some v) : IntsAt w a l := by
  obtain ⟨A, c, rfl, hl, hC⟩ := Kd.R_reads (show Kd.R (Kd.int .i64) 3 w base (fun _ => True) v l from Kd.R_of_own h (fun _ _ => trivial))
  exact ⟨A, c, ha, hl, hC⟩
theorem Lk.c0 (h : Lk w0 w p gf go N t x s vod) : w.cell? ⟨p, 0, none⟩ = some (.pointer (some t)) := by rw [blk_cell h.blk]; rfl
theorem Lk.c1 (h : Lk w0 w p gf go N t x s vod) : w.cell? ⟨p, 1, none⟩ = some (.slice (some ⟨gf, 0, none⟩) N N) := by rw [blk_cell h.blk]; rfl
theorem Lk.c2 (h : Lk w0 w p gf go N t x s vod) : w.cell? ⟨p, 2, none⟩ = some (.slice (some ⟨go, 0, none⟩) N N) := by rw [blk_cell h.blk]; rfl
theorem Lk.c3 (h : Lk w0 w p gf go N t x s vod) : w.cell? ⟨p, 3, none⟩ = some vod := by rw [blk_cell h.blk]; rfl
theorem Lk.links (h : Lk w0 w p gf go N t x s vod) : LinksAt w ⟨p, 0, none⟩ t x s.fl s.ol := by
  refine ⟨h.c0, ints_of_own (v := .slice (some ⟨gf, 0, none⟩) N N) (by rw [h.fll]; exact h.fl) h.c1, ints_of_own (v := .slice (some ⟨go, 0, none⟩) N N) (by rw [h.oll]; exact h.ol) h.c2, h.tr.below h.bw⟩
theorem Lk.setFl (h : Lk w0 w p gf go N t x s vod) (q : Nat) (F : Int) : Lk w0 (w.setCell ⟨gf, q, none⟩ (.int .i64 F)) p gf go N t x ⟨s.fl.set q F, s.ol, s.od⟩ vod := by
  obtain ⟨r1, g1⟩ := own_set h.fl q (.int .i64 F)
  have hpg : gf ≠ p := own_type_blk h.fl h.blk (by decide)
  refine ⟨h.tr, h.bw.setCell (p := ⟨gf, q, none⟩) (own_sz h.fl) _, blk_far h.blk (p := ⟨gf, q, none⟩) (fun e => hpg e.symm) _, h.hp, by rw [← encI_set]; exact r1, own_other h.ol g1 (.inr ?_), own_other h.od g1 h.nf, h.ne, h.nf, h.no⟩
  intro e; exact h.ne (by simpa [Value.ownBlock] using e.symm)
theorem Lk.setOl (h : Lk w0 w p gf go N t x s vod) (q : Nat) (F : Int) : Lk w0 (w.setCell ⟨go, q, none⟩ (.int .i64 F)) p gf go N t x ⟨s.fl, s.ol.set q F, s.od⟩ vod := by
  obtain ⟨r1, g1⟩ := own_set h.ol q (.int .i64 F)
  have hpg : go ≠ p := own_type_blk h.ol h.blk (by decide)
  refine ⟨h.tr, h.bw.setCell (p := ⟨go, q, none⟩) (own_sz h.ol) _, blk_far h.blk (p := ⟨go, q, none⟩) (fun e => hpg e.symm) _, h.hp, own_other h.fl g1 (.inr ?_), by rw [← encI_set]; exact r1, own_other h.od g1 h.no, h.ne, h.nf, h.no⟩
  intro e; exact h.ne (by simpa [Value.ownBlock] using e)
/-- The order's row has been put anew. -/
theorem Lk.setOd {w1 : World} (h : Lk w0 w p gf go N t x s vod) (v1 : Value) (od1 : List Int) (hg : w.grownBy w1 vod.ownBlock) (ho : w1.ownsRow w0.heap.size 3 1 v1 od1.length (encI od1)) (hat : v1.ownBlock = vod.ownBlock ∨ ∃ b, v1.ownBlock = some b ∧ w.heap.size ≤ b) :
    Lk w0 (w1.setCell ⟨p, 3, none⟩ v1) p gf go N t x ⟨s.fl, s.ol, od1⟩ v1 := by
  have r1 := own_other h.fl hg (by rcases h.nf with e | e; · rw [e]; exact .inr (by simp [Value.ownBlock])
                                   · exact .inr (fun e' => e e'.symm))
  have r2 := own_other h.ol hg (by rcases h.no with e | e; · rw [e]; exact .inr (by simp [Value.ownBlock])
                                   · exact .inr (fun e' => e e'.symm))
  have b1 := blk_grown h.blk hg (fun e => by
    rcases own_ne_blk h.od h.blk (by decide) with h1 | h1
    · rw [h1] at e; cases e
    · exact h1 e.symm)
  have g2 := grownBy_set w1 ⟨p, 3, none⟩ v1
  have far : ∀ {v : Value} {n : Nat} {l : List Value}, w1.ownsRow w0.heap.size 3 1 v n l → (w1.setCell ⟨p, 3, none⟩ v1).ownsRow w0.heap.size 3 1 v n l := fun hv => own_other hv g2 (own_ne_blk hv b1 (by decide))
  have hb1 : Go.RowKit.Below w0.heap.size w0 w1 := ⟨hg.os.trans h.bw.os, hg.tape.trans h.bw.tape, hg.output.trans h.bw.output, Nat.le_trans h.bw.size hg.size, fun k hk => (hg.block k (Nat.lt_of_lt_of_le hk h.bw.size) (fun e => by have := own_base h.od k e.symm; omega)).trans (h.bw.block k hk)⟩
  have hgfl : gf < w.heap.size := by obtain ⟨c, b, _⟩ := own_blk h.fl; exact blk_lt b
  have hgol : go < w.heap.size := by obtain ⟨c, b, _⟩ := own_blk h.ol; exact blk_lt b
  refine ⟨h.tr, hb1.setCell (p := ⟨p, 3, none⟩) h.hp _, ?_, h.hp, far r1, far r2, far ho, h.ne, ?_, ?_⟩
  · have := blk_set b1 3 v1
    simpa using this
  · rcases hat with e | ⟨b, e, hb⟩
    · rw [e]; exact h.nf
    · exact .inr (by rw [e]; intro e'; injection e' with e'; omega)
  · rcases hat with e | ⟨b, e, hb⟩
    · rw [e]; exact h.no
    · exact .inr (by rw [e]; intro e'; injection e' with e'; omega)
theorem Lk.flAt (h : Lk w0 w p gf go N t x s vod) (q : Nat) (hq : q < N) : w.cell? ⟨gf, q, none⟩ = some (.int .i64 (atI s.fl q)) := by
  have hl := h.fll
  have := own_cells h.fl (encI_at s.fl q (by omega))
  rw [this]
  unfold atI
  simp [show q < s.fl.length by omega]
theorem Lk.olAt (h : Lk w0 w p gf go N t x s vod) (q : Nat) (hq : q < N) : w.cell? ⟨go, q, none⟩ = some (.int .i64 (atI s.ol q)) := by
  have hl := h.oll
  have := own_cells h.ol (encI_at s.ol q (by omega))
  rw [this]
  unfold atI
  simp [show q < s.ol.length by omega]
theorem Lk.flz (h : Lk w0 w p gf go N t x s vod) (q : Nat) : w.frozen? ⟨gf, q, none⟩ = false := own_frozen h.fl q
theorem Lk.olz (h : Lk w0 w p gf go N t x s vod) (q : Nat) : w.frozen? ⟨go, q, none⟩ = false := own_frozen h.ol q
end
end Go.Proofs.Ytgfmplhpoblleaa.FailW
end
section
/- A region that draws its order, in a round: walked by the plain laws. -/
namespace Go.Proofs.Ytgfmplhpoblleaa.FailW
open Go.RowKit Go.Shelf Go.Lib Go.Proofs
set_option linter.unusedVariables false
set_option linter.unusedSimpArgs false

section
variable {P : Program} {ops : Array Oper} {Q : Exit → Act → World → Prop} {md : Region.Mode} {l n : Nat}
theorem rowsIn_round {row : String} {args : Array Value} {w : World} {R : Value → World → Prop} (h : Rows P row args w R) : RowsIn (Fence.wide.inRound l) n P row args w R := fun c cs _ =>
  let ⟨v, w', r, s⟩ := h c cs; ⟨v, w', r, stepsIn_wide.2 s⟩
/-- An operation that is no defer statement, and opens no round, goes in a round as anywhere. -/
theorem wpIn_of_wp {o : Oper} {a : Act} {w : World} {K : Act → World → Prop} (hd : ∀ c, o.op ≠ .defer c) (hQ : ¬ LetsOut Q) (h : o.wp P a w K Q) : o.wpIn (Fence.wide.inRound l) n P a w K Q := by
  refine ⟨fun _ _ => trivial, ?_⟩
  rw [Oper.semAt_plain _ _ _ hd]
  unfold Oper.wp at h
  generalize (execOp a.eval o).run P w = r at *
  cases r with
  | ok x w' =>
    cases x <;> simp only [Oper.upon] at h <;> simp only [Oper.uponIn]
    case value u => exact h
    case skip => exact h
    case defer d => exact h
    case enter f args =>
      exact ⟨(fun h0 => by cases h0), CallsIn.inRound l (callsIn_wide.2 (Calls.mono h fun e w'' he => by
        cases e with
        | returned v => exact he
        | panicked c => exact he
        | outgrown => exact he))⟩
    case row row args => exact ⟨(fun h0 => by cases h0), rowsIn_round h⟩
    all_goals exact h
  | halt x w' =>
    cases x <;> simp only [Oper.upon] at h <;> simp only [Oper.uponIn]
    case panic u => exact h
    all_goals exact h
theorem wpOpIn_of {i : Nat} {K K' : Act → World → Prop} {a : Act} {w : World} (hd : ∀ (j : Nat) (o : Oper) c, ops[j]? = some o → o.op ≠ .defer c) (hQ : ¬ LetsOut Q) (hK : ∀ a w, K a w → K' a w) (h : wpOp P ops Q i K a w) : wpOpIn (Fence.wide.inRound l) n P ops Q i K' a w := by
  unfold wpOp at h
  unfold wpOpIn
  cases ho : ops[i]? with
  | none => rw [ho] at h; exact hK _ _ h
  | some o =>
    rw [ho] at h
    simp only at h ⊢
    split
    · rename_i hw
      rw [if_pos hw] at h
      rcases h with h | ⟨_, h⟩
      · exact Oper.wpIn_mono hK (wpIn_of_wp (hd i o · ho) hQ h)
      · exact absurd h hQ
    · rename_i hw
      rw [if_neg hw] at h
      exact ⟨fun _ _ => trivial, hK _ _ h⟩
theorem wpAnyIn_of (hd : ∀ (j : Nat) (o : Oper) c, ops[j]? = some o → o.op ≠ .defer c) (hQ : ¬ LetsOut Q) : ∀ (fuel : Nat) (listed : Array Bool) (a : Act) (w : World), wpAny P md ops Q fuel listed a w → wpAnyIn (Fence.wide.inRound l) n P md ops Q fuel listed a w
  | 0, _, _, _, h => h
  | fuel + 1, _, _, _, h => ⟨h.1, fun i hi => wpOpIn_of hd hQ (fun a w h' => wpAnyIn_of hd hQ fuel _ a w h') (h.2 i hi)⟩
def noDefer (ops : Array Oper) : Bool := ops.all fun o => match o.op with
  | .defer _ => false
  | _ => true
theorem noDefer_spec (h : noDefer ops = true) (j : Nat) (o : Oper) (c) (hj : ops[j]? = some o) : o.op ≠ .defer c := by
  intro e
  have := (Array.all_eq_true'.1 h) o (Array.mem_of_getElem? hj)
  rw [e] at this
  cases this
/-- A region in a round, by a condition that holds of all its worlds. -/
theorem wpIn_region_held {S : World → Prop} {id : Nat} {a : Act} {w : World} (hm : P.follows .mixedOrders = true) (hd : noDefer ops = true) (hQ : ¬ LetsOut Q) (hS : S w.drew)
    (h : S w.drew → wpAnyH P .any ops Q S ops.size (Array.replicate ops.size false) a w.drew) : (Code.region id ops true).wpIn (Fence.wide.inRound l) n P Q a w :=
  wpIn_region_any hm (wpAnyIn_of (noDefer_spec hd) hQ _ _ _ _ (wpAny_of_held _ _ _ _ (h hS)))
end
end Go.Proofs.Ytgfmplhpoblleaa.FailW
end
