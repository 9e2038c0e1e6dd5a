/- MatP, Rng, MatC, MatD, MatE, MatF, MatG, MatH, MatI. -/
import Derived.Test.YtgfmplhpoblleaaMB5
import Derived.Test.YtgfmplhpoblleaaMB12
import Derived.RangeFuncNested
import Derived.RangeFuncCalls
import Derived.RangeFuncLeaves
import Derived.Below
import Derived.OwnWalk
import Derived.Maps.AppendAt
import Derived.WalkMore
import Derived.Deep.AppendLies
import Derived.OwnWalkIn
import Derived.Laws.AppendOwnNone
section
/- match: the document's Stands, Stream, Find, Contains and Same; what streams is what is found. -/
namespace Go.Proofs.Ytgfmplhpoblleaa.FailW
open Go.RowKit Go.Shelf Go.Lib Go.Proofs Go.Proofs.YtgfmplhpoblleaaW.PrintWords Go.Proofs.YtgfmplhpoblleaaW.PrintLast Go.Proofs.YtgfmplhpoblleaaW.PrintMore Go.Proofs.Ytgfmplhpoblleaa.PRank Go.Proofs.Ytgfmplhpoblleaa.PFB Go.Proofs.Ytgfmplhpoblleaa.RankW Go.Proofs.Ytgfmplhpoblleaa.SortOwn Go.Proofs.Ytgfmplhpoblleaa
open Go.Proofs.Ytgfmplhpoblleaa.Cmps hiding dedup
set_option linter.unusedVariables false
set_option linter.unusedSimpArgs false

/-- The hits of a text, number by number, behind what has been read. -/
def hitsAll (l : List (List Int)) : List Int → List Int → List S71
  | _, [] => []
  | s, c :: r => hitsE l (lngT (textsOf l) (s ++ [c])) ((s.length : Int) + 1) ++ hitsAll l (s ++ [c]) r
/-! ### Where a pattern stands -/
/-- Does a pattern stand at a place of a text? -/
def stB (t p : List Int) (a : Int) : Bool := decide (0 ≤ a ∧ a + p.length ≤ t.length ∧ (t.drop a.toNat).take p.length = p)
theorem stands_f (t p : List Int) (ht : t.length ≤ 1000) (hp : p.length ≤ 1000) (a : Int) (h1 : -100000 ≤ a) (h2 : a ≤ 100000) {k : Nat} (hk : 2010 ≤ k) : paronymref24_Stands.f k t p a = some (stB t p a) := by
  unfold paronymref24_Stands.f stB
  by_cases c1 : 0 ≤ a
  · rw [if_pos c1]
    by_cases c2 : (p.length : Int) ≤ t.length
    · rw [if_pos c2, RefS.r_wrap _ (by omega) (by omega)]
      by_cases c3 : a ≤ (t.length : Int) - p.length
      · obtain ⟨n, rfl⟩ : ∃ n : Nat, a = n := ⟨a.toNat, by omega⟩
        rw [if_pos c3, if_pos c1, RefS.r_wrap _ (by omega) (by omega), if_pos (by omega), if_pos (by omega)]
        have e1 : ((n : Int) + p.length).toNat = n + p.length := by omega
        rw [e1, Int.toNat_natCast, List.drop_take, Nat.add_sub_cancel_left]
        rw [RefS.ref_same _ _ (by simp; omega) (by omega) k (by simp; omega), Option.bind_some]
        congr 1
        rw [decide_eq_decide]
        exact ⟨fun h => ⟨c1, by omega, h⟩, fun h => h.2.2⟩
      · rw [if_neg c3]
        rw [decide_eq_false (by omega)]
    · rw [if_neg c2, decide_eq_false (by omega)]
  · rw [if_neg (by omega), decide_eq_false (by omega)]
/-- It stands where it ends a beginning. -/
theorem st_end (t p : List Int) (e : Nat) (he : e ≤ t.length) : stB t p ((e : Int) - p.length) = decide (p <:+ t.take e) := by
  unfold stB
  rw [decide_eq_decide]
  constructor
  · rintro ⟨h0, h1, h2⟩
    have e1 : ((e : Int) - p.length).toNat = e - p.length := by omega
    rw [e1] at h2
    refine ⟨t.take (e - p.length), ?_⟩
    have h3 : p = ((t.take e).drop (e - p.length)) := by
      rw [List.drop_take, show e - (e - p.length) = p.length by omega]; exact h2.symm
    conv => lhs; rhs; rw [h3]
    have h4 : t.take (e - p.length) = (t.take e).take (e - p.length) := by rw [List.take_take]; congr 1; omega
    rw [h4, List.take_append_drop]
  · intro h
    have hl := h.length_le
    rw [List.length_take] at hl
    have e1 : ((e : Int) - p.length).toNat = e - p.length := by omega
    refine ⟨by omega, by omega, ?_⟩
    rw [e1]
    obtain ⟨q, hq⟩ := h
    have h3 : (t.take e).drop (e - p.length) = p := by
      have hql : q.length = e - p.length := by have := congrArg List.length hq; simp at this; omega
      rw [← hq, ← hql, List.drop_left]
    rw [List.drop_take, show e - (e - p.length) = p.length by omega] at h3
    exact h3
theorem lens_get (l : List (List Int)) (i : Nat) (h : i < l.length) : (lens l).getD i 0 = (l[i].length : Int) := by
  unfold lens
  simp [h]
/-! ### Stream -/
theorem rstream_1 (l : List (List Int)) (t : List Int) (hl : Bnd l) (ht : t.length ≤ 1000) (K e : Nat) (he : e ≤ t.length) (R : List S71) (d : Nat) : ∀ (k i : Nat) (acc : List S71), l.length - i = d → i ≤ l.length → acc.length + d ≤ 2000000 → d + 2010 + K + 1 ≤ k →
    (∀ k', K ≤ k' → paronymref24_Stream.l0 k' l t (acc ++ (patT i (l.drop i) (t.take e)).map fun q => (⟨q, (e : Int) - (lens l).getD q.toNat 0⟩ : S71)) ((e : Int) + 1) = some R) →
    paronymref24_Stream.l1 k l t acc e (i : Int) = some R := by
  have hll := hl.1
  induction d with
  | zero =>
    intro k i acc hd hi ha hk hR
    obtain ⟨k, rfl⟩ : ∃ m, k = m + 1 := ⟨k - 1, by omega⟩
    simp only [paronymref24_Stream.l1]
    rw [if_neg (by omega), RefS.r_wrap _ (by omega) (by omega)]
    have h := hR k (by omega)
    rw [List.drop_of_length_le (by omega)] at h
    simpa [patT] using h
  | succ d ih =>
    intro k i acc hd hi ha hk hR
    obtain ⟨k, rfl⟩ : ∃ m, k = m + 1 := ⟨k - 1, by omega⟩
    have hlt : i < l.length := by omega
    have hu := hl.2 _ (List.getElem_mem hlt)
    simp only [paronymref24_Stream.l1]
    rw [if_pos (by omega), if_pos (by omega), rdL l i hlt, RefS.r_wrap _ (by omega) (by omega), stands_f t _ ht hu _ (by omega) (by omega) (by omega), Option.bind_some, RefS.r_wrap _ (by omega) (by omega), st_end t _ e he]
    have e2 : ((i : Int) + 1) = ((i + 1 : Nat) : Int) := by omega
    rw [List.drop_eq_getElem_cons hlt] at hR
    by_cases h : l[i] <:+ t.take e
    · rw [if_pos (by simpa using h), if_pos (by omega), e2]
      refine ih k (i + 1) _ (by omega) (by omega) (by simp; omega) (by omega) (fun k' hk' => ?_)
      have := hR k' hk'
      rw [patT, if_pos h, List.map_append, List.map_singleton, Int.toNat_natCast, lens_get l i hlt, ← List.append_assoc] at this
      exact this
    · rw [if_neg (by simpa using h), e2]
      refine ih k (i + 1) _ (by omega) (by omega) (by omega) (by omega) (fun k' hk' => ?_)
      have := hR k' hk'
      rw [patT, if_neg h, List.nil_append] at this
      exact this
/-- The document's hits, end by end. -/
def hitsD (l : List (List Int)) : List Int → List Int → List S71
  | _, [] => []
  | s, c :: r => hitsE l (s ++ [c]) ((s.length : Int) + 1) ++ hitsD l (s ++ [c]) r
theorem patT_len' (s : List Int) : ∀ (l : List (List Int)) (k : Nat), (patT k l s).length ≤ l.length
  | [], k => by simp [patT]
  | p :: r, k => by
    have := patT_len' s r (k + 1)
    rw [patT, List.length_append, List.length_cons]
    split <;> simp <;> omega
theorem rstream_0 (l : List (List Int)) (t : List Int) (hl : Bnd l) (ht : t.length ≤ 1000) (d : Nat) : ∀ (k e : Nat) (acc : List S71), t.length - e = d → e ≤ t.length → acc.length + 1000 * d ≤ 1000000 → d * 3020 + 1 ≤ k →
    paronymref24_Stream.l0 k l t acc ((e : Int) + 1) = some (acc ++ hitsD l (t.take e) (t.drop e)) := by
  have hll := hl.1
  induction d with
  | zero =>
    intro k e acc hd he ha hk
    obtain ⟨k, rfl⟩ : ∃ m, k = m + 1 := ⟨k - 1, by omega⟩
    simp only [paronymref24_Stream.l0]
    rw [if_neg (by omega), List.drop_of_length_le (by omega)]; simp [hitsD]
  | succ d ih =>
    intro k e acc hd he ha hk
    obtain ⟨k, rfl⟩ : ∃ m, k = m + 1 := ⟨k - 1, by omega⟩
    have hlt : e < t.length := by omega
    simp only [paronymref24_Stream.l0]
    rw [if_pos (by omega)]
    have e2 : ((e : Int) + 1) = ((e + 1 : Nat) : Int) := by omega
    rw [e2]
    have hp := patT_len' (t.take (e + 1)) l 0
    refine rstream_1 l t hl ht (d * 3020 + 1) (e + 1) (by omega) _ l.length k 0 acc (by omega) (by omega) (by omega) (by omega) (fun k' hk' => ?_)
    rw [ih k' (e + 1) _ (by omega) (by omega) (by simp; omega) hk', List.drop_zero, List.drop_eq_getElem_cons hlt, hitsD, hitsE, List.take_append_getElem, List.length_take, Nat.min_eq_left (by omega), List.append_assoc, e2]
theorem rstream_f {l : List (List Int)} {t : List Int} (hl : Bnd l) (ht : t.length ≤ 1000) {k : Nat} (hk : 3021000 ≤ k) : paronymref24_Stream.f k l t = some (hitsD l [] t) := by
  have := rstream_0 l t hl ht t.length k 0 [] (by omega) (by omega) (by simp; omega) (by omega)
  unfold paronymref24_Stream.f
  simpa using this
theorem patT_lng (l : List (List Int)) (s : List Int) (ts : List (List Int)) (hp : ∀ p ∈ l, p ∈ ts) : ∀ (r : List (List Int)) (k : Nat), (∀ p ∈ r, p ∈ l) → patT k r (lngT ts s) = patT k r s
  | [], k, _ => rfl
  | p :: r, k, h => by
    have e : (p <:+ lngT ts s) ↔ (p <:+ s) := ⟨fun h2 => h2.trans (lngT_suf ts s), suf_lng ts (hp p (h p (by simp))) s⟩
    rw [patT, patT, patT_lng l s ts hp r (k + 1) (fun q hq => h q (by simp [hq]))]
    simp only [e]
theorem hitsAll_D (l : List (List Int)) : ∀ (r s : List Int), hitsAll l s r = hitsD l s r
  | [], s => rfl
  | c :: r, s => by
    rw [hitsAll, hitsD, hitsAll_D l r, hitsE, patT_lng l _ _ (textsOf_mem l) l 0 (fun _ h => h), hitsE]
/-! ### Find -/
/-- The patterns that stand at a place. -/
def plcT (t : List Int) (a : Nat) (k : Nat) : List (List Int) → List S71
  | [] => []
  | p :: r => (if stB t p a = true then [(⟨k, a⟩ : S71)] else []) ++ plcT t a (k + 1) r
/-- The document's hits, place by place: so many places from here on. -/
def findD (l : List (List Int)) (t : List Int) (a : Nat) : Nat → List S71
  | 0 => []
  | d + 1 => plcT t a 0 l ++ findD l t (a + 1) d
theorem rfind_1 (l : List (List Int)) (t : List Int) (hl : Bnd l) (ht : t.length ≤ 1000) (K a : Nat) (ha1 : a ≤ 1000) (R : List S71) (d : Nat) : ∀ (k i : Nat) (acc : List S71), l.length - i = d → i ≤ l.length → acc.length + d ≤ 2000000 → d + 2010 + K + 1 ≤ k →
    (∀ k', K ≤ k' → paronymref24_Find.l0 k' l t (acc ++ plcT t a i (l.drop i)) ((a : Int) + 1) = some R) →
    paronymref24_Find.l1 k l t acc a (i : Int) = some R := by
  have hll := hl.1
  induction d with
  | zero =>
    intro k i acc hd hi ha hk hR
    obtain ⟨k, rfl⟩ : ∃ m, k = m + 1 := ⟨k - 1, by omega⟩
    simp only [paronymref24_Find.l1]
    rw [if_neg (by omega), RefS.r_wrap _ (by omega) (by omega)]
    have h := hR k (by omega)
    rw [List.drop_of_length_le (by omega)] at h
    simpa [plcT] using h
  | succ d ih =>
    intro k i acc hd hi ha hk hR
    obtain ⟨k, rfl⟩ : ∃ m, k = m + 1 := ⟨k - 1, by omega⟩
    have hlt : i < l.length := by omega
    have hu := hl.2 _ (List.getElem_mem hlt)
    simp only [paronymref24_Find.l1]
    rw [if_pos (by omega), if_pos (by omega), rdL l i hlt, stands_f t _ ht hu _ (by omega) (by omega) (by omega), Option.bind_some, RefS.r_wrap _ (by omega) (by omega)]
    have e2 : ((i : Int) + 1) = ((i + 1 : Nat) : Int) := by omega
    rw [List.drop_eq_getElem_cons hlt] at hR
    by_cases h : stB t l[i] a = true
    · rw [if_pos h, if_pos (by omega), e2]
      refine ih k (i + 1) _ (by omega) (by omega) (by simp; omega) (by omega) (fun k' hk' => ?_)
      have := hR k' hk'
      rw [plcT, if_pos h, ← List.append_assoc] at this
      exact this
    · rw [if_neg h, e2]
      refine ih k (i + 1) _ (by omega) (by omega) (by omega) (by omega) (fun k' hk' => ?_)
      have := hR k' hk'
      rw [plcT, if_neg h, List.nil_append] at this
      exact this
theorem plcT_len (t : List Int) (a : Nat) : ∀ (l : List (List Int)) (k : Nat), (plcT t a k l).length ≤ l.length
  | [], k => by simp [plcT]
  | p :: r, k => by
    have := plcT_len t a r (k + 1)
    rw [plcT, List.length_append, List.length_cons]
    split <;> simp <;> omega
theorem rfind_0 (l : List (List Int)) (t : List Int) (hl : Bnd l) (ht : t.length ≤ 1000) (d : Nat) : ∀ (k a : Nat) (acc : List S71), t.length - a = d → a ≤ t.length → acc.length + 1000 * d ≤ 1000000 → d * 3020 + 1 ≤ k →
    paronymref24_Find.l0 k l t acc (a : Int) = some (acc ++ findD l t a d) := by
  have hll := hl.1
  induction d with
  | zero =>
    intro k a acc hd ha hac hk
    obtain ⟨k, rfl⟩ : ∃ m, k = m + 1 := ⟨k - 1, by omega⟩
    simp only [paronymref24_Find.l0]
    rw [if_neg (by omega)]; simp [findD]
  | succ d ih =>
    intro k a acc hd ha hac hk
    obtain ⟨k, rfl⟩ : ∃ m, k = m + 1 := ⟨k - 1, by omega⟩
    simp only [paronymref24_Find.l0]
    rw [if_pos (by omega)]
    have hp := plcT_len t a l 0
    refine rfind_1 l t hl ht (d * 3020 + 1) a (by omega) _ l.length k 0 acc (by omega) (by omega) (by omega) (by omega) (fun k' hk' => ?_)
    have e2 : ((a : Int) + 1) = ((a + 1 : Nat) : Int) := by omega
    rw [e2, ih k' (a + 1) _ (by omega) (by omega) (by simp; omega) hk', List.drop_zero, findD, List.append_assoc]
theorem rfind_f {l : List (List Int)} {t : List Int} (hl : Bnd l) (ht : t.length ≤ 1000) {k : Nat} (hk : 3021000 ≤ k) : paronymref24_Find.f k l t = some (findD l t 0 t.length) := by
  have := rfind_0 l t hl ht t.length k 0 [] (by omega) (by omega) (by simp; omega) (by omega)
  unfold paronymref24_Find.f
  simpa using this
/-! ### Contains -/
def conD (t p : List Int) (a : Nat) : Nat → Bool
  | 0 => false
  | d + 1 => stB t p a || conD t p (a + 1) d
theorem rcon_0 (t p : List Int) (ht : t.length ≤ 1000) (hp : p.length ≤ 1000) (d : Nat) : ∀ (k a : Nat), t.length + 1 - a = d → a ≤ t.length + 1 → d + 2011 ≤ k → paronymref24_Contains.l0 k t p (a : Int) = some (conD t p a d) := by
  induction d with
  | zero =>
    intro k a hd ha hk
    obtain ⟨k, rfl⟩ : ∃ m, k = m + 1 := ⟨k - 1, by omega⟩
    simp only [paronymref24_Contains.l0]
    rw [if_neg (by omega)]; rfl
  | succ d ih =>
    intro k a hd ha hk
    obtain ⟨k, rfl⟩ : ∃ m, k = m + 1 := ⟨k - 1, by omega⟩
    simp only [paronymref24_Contains.l0]
    rw [if_pos (by omega), stands_f t p ht hp a (by omega) (by omega) (by omega), Option.bind_some, conD]
    by_cases h : stB t p a = true
    · rw [if_pos h, h]; rfl
    · have e2 : ((a : Int) + 1) = ((a + 1 : Nat) : Int) := by omega
      rw [if_neg h, RefS.r_wrap _ (by omega) (by omega), e2, ih k (a + 1) (by omega) (by omega) (by omega)]
      simp at h
      rw [h]; rfl
theorem rcon_f {t p : List Int} (ht : t.length ≤ 1000) (hp : p.length ≤ 1000) {k : Nat} (hk : 3100 ≤ k) : paronymref24_Contains.f k t p = some (conD t p 0 (t.length + 1)) := rcon_0 t p ht hp (t.length + 1) k 0 (by omega) (by omega) (by omega)
theorem conD_iff (t p : List Int) : ∀ (d a : Nat), conD t p a d = true ↔ ∃ b : Nat, a ≤ b ∧ b < a + d ∧ stB t p b = true
  | 0, a => by simp [conD]; omega
  | d + 1, a => by
    rw [conD, Bool.or_eq_true, conD_iff t p d (a + 1)]
    constructor
    · rintro (h | ⟨b, h1, h2, h3⟩)
      · exact ⟨a, Nat.le_refl _, by omega, h⟩
      · exact ⟨b, by omega, by omega, h3⟩
    · rintro ⟨b, h1, h2, h3⟩
      rcases Nat.eq_or_lt_of_le h1 with e | h
      · exact .inl (by rw [e]; exact h3)
      · exact .inr ⟨b, by omega, by omega, h3⟩
/-! ### Same -/
theorem rsame_0 (x y : List S71) (hx : x.length ≤ 1000000) (hl : x.length = y.length) (d : Nat) : ∀ (k i : Nat), x.length - i = d → i ≤ x.length → d < k → ∃ b, paronymref24_Same.l0 k x y (i : Int) = some b ∧ (b = true ↔ x.drop i = y.drop i) := by
  induction d with
  | zero =>
    intro k i hd hi hk
    obtain ⟨k, rfl⟩ : ∃ m, k = m + 1 := ⟨k - 1, by omega⟩
    simp only [paronymref24_Same.l0]
    rw [if_neg (by omega)]
    exact ⟨true, rfl, by rw [List.drop_of_length_le (by omega), List.drop_of_length_le (by omega)]; simp⟩
  | succ d ih =>
    intro k i hd hi hk
    obtain ⟨k, rfl⟩ : ∃ m, k = m + 1 := ⟨k - 1, by omega⟩
    have h1 : i < x.length := by omega
    have h2 : i < y.length := by omega
    have r1 : rd_T71 x (i : Int) = x[i] := by unfold rd_T71; simp [h1]
    have r2 : rd_T71 y (i : Int) = y[i] := by unfold rd_T71; simp [h2]
    simp only [paronymref24_Same.l0]
    rw [if_pos (by omega), if_pos (by omega), if_pos (by omega), r1, r2, List.drop_eq_getElem_cons h1, List.drop_eq_getElem_cons h2]
    by_cases h : x[i] = y[i]
    · rw [if_neg (by rw [h]; simp), RefS.r_wrap _ (by omega) (by omega)]
      obtain ⟨b, e1, e2⟩ := ih k (i + 1) (by omega) (by omega) (by omega)
      have e3 : ((i : Int) + 1) = ((i + 1 : Nat) : Int) := by omega
      rw [e3]
      exact ⟨b, e1, by rw [e2, h, List.cons.injEq]; exact ⟨fun q => ⟨rfl, q⟩, fun q => q.2⟩⟩
    · have hne : (!(x[i].f0 == y[i].f0) || !(x[i].f1 == y[i].f1)) = true := by
        cases hb : (!(x[i].f0 == y[i].f0) || !(x[i].f1 == y[i].f1)) with
        | true => rfl
        | false =>
          exfalso; apply h
          simp at hb
          cases hx : x[i] with | mk p q => cases hy : y[i] with | mk p' q' => rw [hx, hy] at hb; obtain ⟨rfl, rfl⟩ := hb; rfl
      rw [if_pos hne]
      exact ⟨false, rfl, by rw [List.cons.injEq]; exact ⟨fun q => (by cases q), fun q => absurd q.1 h⟩⟩
theorem rsame_f {x y : List S71} (hx : x.length ≤ 1000000) {k : Nat} (hk : 1000001 ≤ k) : ∃ b, paronymref24_Same.f k x y = some b ∧ (b = true ↔ x = y) := by
  unfold paronymref24_Same.f
  by_cases h : x.length = y.length
  · rw [if_pos (by omega)]
    obtain ⟨b, h1, h2⟩ := rsame_0 x y hx h x.length k 0 (by omega) (by omega) (by omega)
    exact ⟨b, h1, by simpa using h2⟩
  · rw [if_neg (by omega)]
    exact ⟨false, rfl, by constructor; (intro h; cases h); (intro e; exact absurd (congrArg List.length e) h)⟩
/-! ### What is found is what streams, in order -/
/-- By place, then by pattern. -/
def ltH (a b : S71) : Prop := a.f1 < b.f1 ∨ (a.f1 = b.f1 ∧ a.f0 < b.f0)
theorem S71_ext {a b : S71} (h0 : a.f0 = b.f0) (h1 : a.f1 = b.f1) : a = b := by cases a; cases b; simp at h0 h1; rw [h0, h1]
theorem rise_extR {α : Type} {R : α → α → Prop} (hR : ∀ a b, R a b → R b a → False) : ∀ (a b : List α), a.Pairwise R → b.Pairwise R → (∀ q, q ∈ a ↔ q ∈ b) → a = b
  | [], [], _, _, _ => rfl
  | [], y :: b, _, _, h => absurd ((h y).2 (by simp)) (by simp)
  | y :: a, [], _, _, h => absurd ((h y).1 (by simp)) (by simp)
  | x :: a, y :: b, ha, hb, h => by
    obtain ⟨h1, h2⟩ := List.pairwise_cons.1 ha
    obtain ⟨h3, h4⟩ := List.pairwise_cons.1 hb
    have e : x = y := by
      rcases List.mem_cons.1 ((h x).1 (by simp)) with e | e
      · exact e
      · rcases List.mem_cons.1 ((h y).2 (by simp)) with e2 | e2
        · exact e2.symm
        · exact (hR _ _ (h1 y e2) (h3 x e)).elim
    subst e
    rw [rise_extR hR a b h2 h4 (fun q => by
      have := h q
      simp only [List.mem_cons] at this
      constructor
      · intro hq
        rcases this.1 (.inr hq) with rfl | h5
        · exact (hR _ _ (h1 q hq) (h1 q hq)).elim
        · exact h5
      · intro hq
        rcases this.2 (.inr hq) with rfl | h5
        · exact (hR _ _ (h3 q hq) (h3 q hq)).elim
        · exact h5)]
theorem mem_plcT (t : List Int) (a : Nat) (x : S71) : ∀ (l : List (List Int)) (k : Nat), x ∈ plcT t a k l ↔ ∃ (i : Nat) (p : List Int), x = ⟨((k + i : Nat) : Int), a⟩ ∧ l[i]? = some p ∧ stB t p a = true
  | [], k => by simp [plcT]
  | p :: r, k => by
    rw [plcT, List.mem_append, mem_plcT t a x r]
    constructor
    · rintro (h | ⟨i, p', rfl, hi, h2⟩)
      · split at h
        · rename_i e
          rw [List.mem_singleton] at h
          exact ⟨0, p, by simpa using h, by simp, e⟩
        · simp at h
      · exact ⟨i + 1, p', by congr 1; omega, by simpa using hi, h2⟩
    · rintro ⟨i, p', rfl, hi, h2⟩
      cases i with
      | zero =>
        simp at hi
        subst hi
        left; rw [if_pos h2]; simp
      | succ i => exact .inr ⟨i, p', by congr 1; omega, by simpa using hi, h2⟩
theorem plcT_rise (t : List Int) (a : Nat) : ∀ (l : List (List Int)) (k : Nat), (plcT t a k l).Pairwise ltH
  | [], k => List.Pairwise.nil
  | p :: r, k => by
    rw [plcT, List.pairwise_append]
    refine ⟨by split <;> simp, plcT_rise t a r _, ?_⟩
    intro x hx y hy
    obtain ⟨i, p', rfl, -, -⟩ := (mem_plcT t a y r (k + 1)).1 hy
    split at hx
    · rw [List.mem_singleton] at hx; subst hx; exact .inr ⟨rfl, by show (k : Int) < ((k + 1 + i : Nat) : Int); omega⟩
    · simp at hx
theorem mem_findD (l : List (List Int)) (t : List Int) (x : S71) : ∀ (d a : Nat), x ∈ findD l t a d ↔ ∃ (i b : Nat) (p : List Int), x = ⟨(i : Int), (b : Int)⟩ ∧ a ≤ b ∧ b < a + d ∧ l[i]? = some p ∧ stB t p b = true
  | 0, a => by simp [findD]; omega
  | d + 1, a => by
    rw [findD, List.mem_append, mem_findD l t x d (a + 1), mem_plcT]
    constructor
    · rintro (⟨i, p, rfl, h1, h2⟩ | ⟨i, b, p, rfl, h1, h2, h3, h4⟩)
      · exact ⟨i, a, p, by simp, Nat.le_refl _, by omega, h1, h2⟩
      · exact ⟨i, b, p, rfl, by omega, by omega, h3, h4⟩
    · rintro ⟨i, b, p, rfl, h1, h2, h3, h4⟩
      rcases Nat.eq_or_lt_of_le h1 with e | h
      · subst e; exact .inl ⟨i, p, by simp, h3, h4⟩
      · exact .inr ⟨i, b, p, rfl, by omega, by omega, h3, h4⟩
theorem findD_rise (l : List (List Int)) (t : List Int) : ∀ (d a : Nat), (findD l t a d).Pairwise ltH
  | 0, a => List.Pairwise.nil
  | d + 1, a => by
    rw [findD, List.pairwise_append]
    refine ⟨plcT_rise t a l 0, findD_rise l t d (a + 1), ?_⟩
    intro x hx y hy
    obtain ⟨i, p, rfl, -, -⟩ := (mem_plcT t a x l 0).1 hx
    obtain ⟨i', b, p', rfl, h1, -, -, -⟩ := (mem_findD l t y d (a + 1)).1 hy
    exact .inl (by show (a : Int) < (b : Int); omega)
theorem mem_hitsE (l : List (List Int)) (u : List Int) (rd : Int) (x : S71) : x ∈ hitsE l u rd ↔ ∃ (i : Nat) (p : List Int), x = ⟨(i : Int), rd - p.length⟩ ∧ l[i]? = some p ∧ p <:+ u := by
  unfold hitsE
  rw [List.mem_map]
  constructor
  · rintro ⟨q, hq, rfl⟩
    obtain ⟨i, p, rfl, hi, h2⟩ := (mem_patT u l 0 q).1 hq
    obtain ⟨hlt, e⟩ := List.getElem?_eq_some_iff.1 hi
    refine ⟨i, p, ?_, hi, h2⟩
    rw [Nat.zero_add, Int.toNat_natCast, lens_get l i hlt, e]
  · rintro ⟨i, p, rfl, hi, h2⟩
    obtain ⟨hlt, e⟩ := List.getElem?_eq_some_iff.1 hi
    refine ⟨i, (mem_patT u l 0 _).2 ⟨i, p, by simp, hi, h2⟩, ?_⟩
    rw [Int.toNat_natCast, lens_get l i hlt, e]
theorem mem_hitsD (l : List (List Int)) (x : S71) : ∀ (r s : List Int), x ∈ hitsD l s r ↔ ∃ (i e : Nat) (p : List Int), x = ⟨(i : Int), (e : Int) - p.length⟩ ∧ s.length < e ∧ e ≤ (s ++ r).length ∧ l[i]? = some p ∧ p <:+ (s ++ r).take e
  | [], s => by simp [hitsD]; intros; omega
  | c :: r, s => by
    rw [hitsD, List.mem_append, mem_hitsD l x r (s ++ [c]), mem_hitsE]
    have ea : s ++ [c] ++ r = s ++ c :: r := by simp
    have et : (s ++ c :: r).take (s.length + 1) = s ++ [c] := by
      rw [← ea, List.take_left' (by simp)]
    rw [ea]
    constructor
    · rintro (⟨i, p, rfl, h1, h2⟩ | ⟨i, e, p, rfl, h1, h2, h3, h4⟩)
      · exact ⟨i, s.length + 1, p, by congr 1, by omega, by simp, h1, by rw [et]; exact h2⟩
      · exact ⟨i, e, p, rfl, by simp at h1; omega, h2, h3, h4⟩
    · rintro ⟨i, e, p, rfl, h1, h2, h3, h4⟩
      rcases Nat.eq_or_lt_of_le (show s.length + 1 ≤ e by omega) with e1 | h
      · subst e1
        rw [et] at h4
        exact .inl ⟨i, p, by congr 1, h3, h4⟩
      · exact .inr ⟨i, e, p, rfl, by simp; omega, h2, h3, h4⟩
/-- What streams is what is found. -/
theorem stream_found (l : List (List Int)) (hne : ∀ p ∈ l, p ≠ []) (t : List Int) (x : S71) : x ∈ hitsD l [] t ↔ x ∈ findD l t 0 t.length := by
  rw [mem_hitsD, mem_findD]
  constructor
  · rintro ⟨i, e, p, rfl, h1, h2, h3, h4⟩
    rw [List.nil_append] at h2 h4
    have hp := hne p (List.mem_of_getElem? h3)
    have hpl : 0 < p.length := List.length_pos_iff.2 hp
    have hl := h4.length_le
    rw [List.length_take] at hl
    refine ⟨i, e - p.length, p, by congr 1; omega, by omega, by omega, h3, ?_⟩
    rw [show ((e - p.length : Nat) : Int) = (e : Int) - p.length by omega, st_end t p e (by omega)]
    simpa using h4
  · rintro ⟨i, b, p, rfl, h1, h2, h3, h4⟩
    have hp := hne p (List.mem_of_getElem? h3)
    have hpl : 0 < p.length := List.length_pos_iff.2 hp
    have hb : b + p.length ≤ t.length := by
      unfold stB at h4
      have := (of_decide_eq_true h4).2.1
      omega
    refine ⟨i, b + p.length, p, by congr 1; omega, by simp; omega, by simpa using hb, h3, ?_⟩
    have := st_end t p (b + p.length) hb
    rw [show (((b + p.length : Nat) : Int) - p.length) = (b : Int) by omega, h4] at this
    simpa using this.symm
theorem hitsE_nodup (l : List (List Int)) (u : List Int) (rd : Int) : (hitsE l u rd).Nodup := by
  unfold hitsE
  rw [List.Nodup, List.pairwise_map]
  exact (patT_rise u l 0).imp (fun h e => by injection e with e1 e2; omega)
theorem hitsD_nodup (l : List (List Int)) : ∀ (r s : List Int), (hitsD l s r).Nodup
  | [], s => by simp [hitsD]
  | c :: r, s => by
    rw [hitsD, List.nodup_append]
    refine ⟨hitsE_nodup _ _ _, hitsD_nodup l r _, ?_⟩
    intro x hx y hy e
    subst e
    obtain ⟨i, p, rfl, h1, h2⟩ := (mem_hitsE _ _ _ _).1 hx
    obtain ⟨i', e, p', he, h3, h4, h5, h6⟩ := (mem_hitsD l _ r (s ++ [c])).1 hy
    injection he with e1 e2
    have : i' = i := by omega
    subst this
    rw [h1] at h5
    obtain rfl := Option.some.inj h5
    simp at h3
    omega
/-- What is sorted by place, then by pattern, is the document's. -/
theorem sorted_found (l : List (List Int)) (hne : ∀ p ∈ l, p ≠ []) (t : List Int) (ys : List S71) (hp : ys.Perm (hitsAll l [] t)) (hs : ys.Pairwise fun a b => ¬ ltH b a) : ys = findD l t 0 t.length := by
  rw [hitsAll_D] at hp
  have hn : ys.Nodup := hp.nodup_iff.2 (hitsD_nodup l t [])
  refine rise_extR (R := ltH) (fun a b h1 h2 => by unfold ltH at h1 h2; omega) _ _ ?_ (findD_rise l t _ _) (fun q => by rw [hp.mem_iff, stream_found l hne])
  refine (hs.and hn).imp (fun {a b} h => ?_)
  obtain ⟨h1, h2⟩ := h
  unfold ltH at *
  by_cases c1 : a.f1 < b.f1
  · exact .inl c1
  · by_cases c2 : a.f1 = b.f1
    · by_cases c3 : a.f0 < b.f0
      · exact .inr ⟨c2, c3⟩
      · exfalso
        by_cases c4 : a.f0 = b.f0
        · exact h2 (S71_ext c4 c2)
        · exact h1 (.inr ⟨c2.symm, by omega⟩)
    · exact (h1 (.inl (by omega))).elim
/-- One pattern's hits tell whether a text contains it. -/
theorem con_found (p t : List Int) (hp : p ≠ []) : decide (0 < (findD [p] t 0 t.length).length) = conD t p 0 (t.length + 1) := by
  have hpl : 0 < p.length := List.length_pos_iff.2 hp
  by_cases h : conD t p 0 (t.length + 1) = true
  · rw [h]
    obtain ⟨b, h1, h2, h3⟩ := (conD_iff t p _ _).1 h
    have hb : b + p.length ≤ t.length := by
      unfold stB at h3
      have := (of_decide_eq_true h3).2.1
      omega
    have hm := (mem_findD [p] t ⟨(0 : Nat), b⟩ t.length 0).2 ⟨0, b, p, rfl, by omega, by omega, rfl, h3⟩
    exact decide_eq_true (List.length_pos_of_mem hm)
  · rw [Bool.eq_false_iff.2 h]
    refine decide_eq_false (fun h2 => h ?_)
    obtain ⟨x, hx⟩ := List.exists_mem_of_length_pos h2
    obtain ⟨i, b, q, rfl, h3, h4, h5, h6⟩ := (mem_findD [p] t x t.length 0).1 hx
    have e : q = p := by
      cases i with
      | zero => simpa using h5.symm
      | succ i => simp at h5
    subst e
    exact (conD_iff t q _ _).2 ⟨b, by omega, by omega, h6⟩
end Go.Proofs.Ytgfmplhpoblleaa.FailW
end
section
/- A range over an iterator that keeps blocks of its own and writes them between two yields: what the iterator promises, and the statement's law. -/
namespace Go.Proofs.Ytgfmplhpoblleaa.FailW
open Go.RowKit Go
set_option linter.unusedVariables false
set_option linter.unusedSimpArgs false

/-- J abides whatever turns the blocks Z; new blocks may join them. -/
def AbidesZ {β : Type} (J : (Nat → Prop) → β → World → Prop) : Prop :=
  ∀ (Z Z' : Nat → Prop) (s : β) (A B : World) (row : Option Nat), J Z s A → A.grownBy B row → (∀ r, row = some r → Z r) → (∀ b, Z' b → Z b ∨ (A.heap.size ≤ b ∧ b < B.heap.size)) → J Z' s B
/-- The blocks Z lie as they lay. -/
def KeepZ (Z : Nat → Prop) (A B : World) : Prop := ∀ b, Z b → B.heap[b]? = A.heap[b]?
theorem KeepZ.refl (Z : Nat → Prop) (A : World) : KeepZ Z A A := fun _ _ => rfl
theorem KeepZ.trans {Z : Nat → Prop} {A B C : World} (h : KeepZ Z A B) (h' : KeepZ Z B C) : KeepZ Z A C := fun b hb => (h' b hb).trans (h b hb)
/-- An iterator that gives just these, one by one, and may turn the blocks that it has laid (Z). What lies below n0, its own blocks, and the blocks K that it reads, must lie as they lay. -/
def SeqOwn {α : Type} (n : Nat) (P : Program) (g : Nat) (lb : Array Value) (encs : α → Array Value) (n0 : Nat) (K Z0 : Nat → Prop) (xs : List α) (w : World) : Prop :=
  ∀ (l : Nat) (J : (Nat → Prop) → List α → World → Prop) (Jx : List α → World → Prop) (W : World), Below w.heap.size w W → AbidesZ J →
    (∀ Z pre x r W1, J Z pre W1 → xs = pre ++ x :: r → YieldAt Fence.wide (n - 1) P l (encs x) W1 fun e W' =>
      (e = .returned (.bool true) ∧ J Z (pre ++ [x]) W' ∧ KeepZ (fun b => Z b ∨ K b) W1 W' ∧ Below n0 W1 W') ∨ (e = .returned (.bool false) ∧ Jx (pre ++ [x]) W')) →
    J Z0 [] W →
    CallsIn Fence.wide n P g (#[.func (.yield l) #[] #[]] ++ lb) W fun e W' => (∃ v, e = .returned v) ∧ ((∃ Z, J Z xs W') ∨ ∃ pre x r, xs = pre ++ x :: r ∧ Jx (pre ++ [x]) W')
/-- What a round's body ends in. -/
def postZ {α : Type} (K Z : Nat → Prop) (n0 : Nat) (I : (Nat → Prop) → List α → World → Prop) (Ix : Code → List α → World → Prop) (xs : List α) (W : World) : Exit → Act → World → Prop
  | .normal, _, W' => KeepZ (fun b => Z b ∨ K b) W W' ∧ Below n0 W W' ∧ I Z xs W'
  | .ret, _, W' => KeepZ (fun b => Z b ∨ K b) W W' ∧ Ix .ret xs W'
  | .exit id, _, W' => KeepZ (fun b => Z b ∨ K b) W W' ∧ Ix (.exit id) xs W'
  | .goto t, _, W' => KeepZ (fun b => Z b ∨ K b) W W' ∧ Ix (.goto t) xs W'
  | .panic _, _, _ => False
  | .outgrown, _, _ => False
theorem grown_put (W : World) (l : Nat) (o : Obj) : W.grownBy (W.putObj l o) (some l) := ⟨rfl, rfl, rfl, by simp [World.putObj], fun b hb hne => World.putObj_heap_other (fun e => hne (by rw [e]))⟩
theorem below_put (W : World) (l n0 : Nat) (o : Obj) (h : n0 ≤ l) : Below n0 W (W.putObj l o) := ⟨rfl, rfl, rfl, by simp [World.putObj], fun b hb => World.putObj_heap_other (by omega)⟩
theorem grown_alloc (W : World) (o : Obj) : W.grownBy (W.alloc o) none := ⟨rfl, rfl, rfl, by simp, fun b hb _ => Below.heap_alloc _ _ _ hb⟩
section
variable {α : Type} {n : Nat} {P : Program}
/-- **THE STATEMENT.** The caller brings I (between two rounds), what its assignment leaves (Ax), what a round that leaves has left (Ix); it is told the blocks Z that are not its own, and which element comes. -/
theorem range_own {g : Operand} {ps : Array Tmp} {assign body : Code} {Q : Exit → Act → World → Prop} {a : Act} {w : World} (h1 : 1 ≤ n) {gf : Nat} {lb : Array Value} (hg : a.eval g = .func (.func gf) #[] lb) (eg : ∀ args w, (callFunc gf args).run P w = .ok (.enter gf args) w)
    {encs : α → Array Value} {n0 : Nat} {K Z0 : Nat → Prop} {xs : List α} {w0 : World} (hseq : SeqOwn (n - 1) P gf lb encs n0 K Z0 xs w0) (hb0 : Below w0.heap.size w0 w) (hn0 : n0 ≤ w.heap.size) (hZ0 : ∀ b, Z0 b → b < w.heap.size) (hK0 : ∀ b, K b → b < w.heap.size) (hps : ∀ x, (encs x).size = ps.size)
    (I : (Nat → Prop) → List α → World → Prop) (Ax : (Nat → Prop) → (List α × α × Act) → World → Prop) (Ix : Code → List α → World → Prop) (hI : AbidesZ I) (hA : AbidesZ Ax)
    (hIx : ∀ c s W l r o, w.heap.size ≤ l → W.heap[l]? = some (.loop r) → Ix c s W → Ix c s (W.putObj l o)) (h0 : I Z0 [] w)
    (hassign : ∀ (l : Nat) (Z : Nat → Prop) (pre : List α) (x : α) (r : List α) (W : World) (Kc : Act → World → Prop), I Z pre W → xs = pre ++ x :: r → (∀ a' W', KeepZ (fun b => Z b ∨ K b) W W' → Below n0 W W' → Ax Z (pre, x, a') W' → Kc a' W') →
      assign.wpIn (Fence.wide.inRound l) (n - 1 - 1) P (Exit.then Kc (fun _ _ _ => False)) { tmps := (ps.zip (encs x)).foldl (fun t (p, v) => t.setIfInBounds p v) a.tmps, defers := [] } W)
    (hbody : ∀ (l : Nat) (Z : Nat → Prop) (pre : List α) (x : α) (r : List α) (a' : Act) (W : World), Ax Z (pre, x, a') W → xs = pre ++ x :: r → body.wpIn (Fence.wide.inRound l) (n - 1 - 1) P (postZ K Z n0 I Ix (pre ++ [x]) W) a' W)
    (hdone : ∀ (Z : Nat → Prop) (W : World), I Z xs W → W.heap[w.heap.size]? = some (.deferred (some [])) → Q .normal { a with defers := { target := .collected w.heap.size, args := #[] } :: a.defers } W)
    (hstop : ∀ (c : Code) (pre : List α) (x : α) (r : List α) (W : World), xs = pre ++ x :: r → Ix c (pre ++ [x]) W → W.heap[w.heap.size]? = some (.deferred (some [])) → c.wpIn Fence.wide n P Q { a with defers := { target := .collected w.heap.size, args := #[] } :: a.defers } W) :
    (Code.rangeFunc g ps assign body).wpIn Fence.wide n P Q a w := by
  refine wpIn_rangeFunc fun fn hfn => ?_
  obtain ⟨D, hD⟩ : ∃ D, D = w.heap.size := ⟨_, rfl⟩
  obtain ⟨L, hL⟩ : ∃ L, L = D + 1 := ⟨_, rfl⟩
  obtain ⟨st, hst⟩ : ∃ st : LoopState → Option Code → Obj, st = fun s pe => .loop { state := s, pending := pe, fn, tmps := a.tmps, params := ps, assign, body, defers := D } := ⟨_, rfl⟩
  obtain ⟨V, hV⟩ : ∃ V, V = (w.alloc (.deferred (some []))).alloc (st .ready none) := ⟨_, rfl⟩
  have sV : V.heap.size = D + 2 := by rw [hV]; simp [hD]
  have vL : V.heap[L]? = some (st .ready none) := by
    have h := World.alloc_heap_new (w.alloc (.deferred (some []))) (st .ready none)
    rw [World.size_alloc, ← hD, ← hL] at h
    rw [hV]; exact h
  have vD : V.heap[D]? = some (.deferred (some [])) := by
    have h := World.alloc_heap_new w (.deferred (some []))
    rw [← hD] at h
    rw [hV]; exact (Below.heap_alloc _ _ _ (by simp [hD])).trans h
  have vB : Below w0.heap.size w0 V := by
    rw [hV]; exact hb0.trans ((((Below.refl _ w).alloc (Nat.le_refl _) _).alloc (by simp) _).mono hb0.size)
  have vI : I (fun b => Z0 b ∨ b = L ∨ b = D) [] V := by
    have g1 : w.grownBy V none := by rw [hV]; exact (grown_alloc w _).trans (grown_alloc _ _)
    exact hI _ _ _ _ _ none h0 g1 (fun r e => by cases e) (fun b hb => by rcases hb with hb | hb | hb; exact .inl hb; exact .inr ⟨by omega, by omega⟩; exact .inr ⟨by omega, by omega⟩)
  refine ⟨L, [{ target := .collected D, args := #[] }], V, { target := .fn (.func gf) lb, args := #[.func (.yield L) #[] #[]] }, V, gf, #[.func (.yield L) #[] #[]] ++ lb, V, ?_, ?_, ?_, ?_, fun _ => h1, ?_⟩
  · have h := run_enterLoop_outer (P := P) (w := w) fn a.tmps ps assign body
    rw [← hD, ← hL] at h
    rw [hV, hst]; exact h
  · simp only [resolve, hg]
    simp [go_sem]
  · intro f' _; trivial
  · simp [invoke, go_sem, eg]
  · rw [← hD] at hdone hstop
    -- the iterator's contract, with the record and the block of deferred calls beside the caller's invariant
    refine (hseq L (fun Z pre W => I (fun b => Z b ∨ b = L ∨ b = D) pre W ∧ W.heap[L]? = some (st .ready none) ∧ W.heap[D]? = some (.deferred (some [])) ∧ ¬ Z L ∧ ¬ Z D)
      (fun pre W => ∃ c, Ix c pre W ∧ W.heap[L]? = some (st .done (some c)) ∧ W.heap[D]? = some (.deferred (some []))) V vB ?_ ?_ ⟨vI, vL, vD, fun h => by have := hZ0 L h; omega, fun h => by have := hZ0 D h; omega⟩).mono ?_
    · rintro Z Z' s A B row ⟨hi, hl, hd, zl, zd⟩ hgr hr hz
      have lA : L < A.heap.size := (Array.getElem?_eq_some_iff.1 hl).1
      have nz : ∀ b, ¬ Z b → b < A.heap.size → B.heap[b]? = A.heap[b]? := fun b hb hlt => hgr.block b hlt (fun e => hb (hr b e.symm))
      refine ⟨hI _ _ _ _ _ row hi hgr (fun r e => .inl (hr r e)) (fun b hb => ?_), (nz L zl lA).trans hl, (nz D zd (by omega)).trans hd, fun h => ?_, fun h => ?_⟩
      · rcases hb with hb | hb
        · rcases hz b hb with h | h
          · exact .inl (.inl h)
          · exact .inr h
        · exact .inl (.inr hb)
      · rcases hz L h with h | h
        · exact zl h
        · omega
      · rcases hz D h with h | h
        · exact zd h
        · omega
    · rintro Z pre x r W ⟨hi, hl, hd, zl, zd⟩ hx
      have lW : L < W.heap.size := (Array.getElem?_eq_some_iff.1 hl).1
      have hl' := hl
      rw [hst] at hl'
      refine ⟨fn, _, assign, body, run_yield hl' (hps x), roundIn_of_wpIn hfn (hassign L _ pre x r W _ hi hx ?_)⟩
      intro a1 W1 k1 b1 hax
      have l1 : W1.heap[L]? = some (st .ready none) := (k1 L (.inl (.inr (.inl rfl)))).trans hl
      have d1 : W1.heap[D]? = some (.deferred (some [])) := (k1 D (.inl (.inr (.inr rfl)))).trans hd
      have l1' := l1
      rw [hst] at l1'
      have lt1 : L < W1.heap.size := (Array.getElem?_eq_some_iff.1 l1).1
      obtain ⟨W2, hW2⟩ : ∃ W2, W2 = W1.putObj L (st .busy none) := ⟨_, rfl⟩
      have l2 : W2.heap[L]? = some (st .busy none) := by rw [hW2]; exact World.putObj_heap_same lt1
      have d2 : W2.heap[D]? = some (.deferred (some [])) := by rw [hW2]; exact (World.putObj_heap_other (by omega)).trans d1
      have gz : W1.grownBy W2 (some L) := by rw [hW2]; exact grown_put _ _ _
      have hax2 := hA _ (fun b => Z b ∨ b = L ∨ b = D) _ _ W2 (some L) hax gz (fun r e => by cases e; exact .inr (.inl rfl)) (fun b hb => .inl hb)
      refine ⟨W2, by have h := run_beginRound (P := P) l1' rfl; rw [hW2, hst]; exact h, ?_⟩
      refine wpIn_mono (hbody L _ pre x r a1 W2 hax2 hx) ?_
      have bz2 : Below n0 W W2 := b1.trans ((by rw [hW2]; exact below_put W1 L n0 _ (by omega)) : Below n0 W1 W2)
      have fin : ∀ (jump : Option Code) (W3 : World), KeepZ (fun b => (Z b ∨ b = L ∨ b = D) ∨ K b) W2 W3 → (Instr.endRound L jump).run P W3 = .ok (.bool jump.isNone) (W3.putObj L (st (if jump.isNone then .ready else .done) jump)) ∧ L < W3.heap.size ∧ W3.heap[D]? = some (.deferred (some [])) ∧ ∃ r3, W3.heap[L]? = some (.loop r3) := by
        intro jump W3 k3
        have l3 := (k3 L (.inl (.inr (.inl rfl)))).trans l2
        have lt3 := (Array.getElem?_eq_some_iff.1 l3).1
        rw [hst] at l3
        have h := run_endRound (P := P) jump l3
        exact ⟨by rw [hst]; exact h, lt3, (k3 D (.inl (.inr (.inr rfl)))).trans d2, _, l3⟩
      have kz : ∀ (W3 : World) (o : Obj), KeepZ (fun b => (Z b ∨ b = L ∨ b = D) ∨ K b) W2 W3 → KeepZ (fun b => Z b ∨ K b) W (W3.putObj L o) := fun W3 o k3 b hb => by
        have hbL : b ≠ L := fun e => by
          rcases hb with hb | hb
          · exact zl (e ▸ hb)
          · have := hK0 b hb; omega
        have hb2 : (Z b ∨ b = L ∨ b = D) ∨ K b := hb.imp .inl id
        exact (World.putObj_heap_other hbL).trans ((k3 b hb2).trans ((by rw [hW2]; exact World.putObj_heap_other hbL : W2.heap[b]? = W1.heap[b]?).trans (k1 b hb2)))
      rintro e a3 W3 hp
      cases e with
      | normal =>
        obtain ⟨k3, b3, i3⟩ := hp
        obtain ⟨hr, lt3, d3, r3, l3⟩ := fin none W3 k3
        refine ⟨_, _, hr, .inl ⟨rfl, ⟨hI _ _ _ _ _ (some L) i3 (grown_put W3 L _) (fun r e => by cases e; exact .inr (.inl rfl)) (fun b hb => .inl hb), World.putObj_heap_same lt3, (World.putObj_heap_other (by omega)).trans d3, zl, zd⟩, kz W3 _ k3, bz2.trans (b3.trans (below_put W3 L n0 _ (by omega)))⟩⟩
      | ret =>
        obtain ⟨k3, i3⟩ := hp
        obtain ⟨hr, lt3, d3, r3, l3⟩ := fin (some .ret) W3 k3
        exact ⟨_, _, hr, .inr ⟨rfl, .ret, hIx _ _ _ _ _ _ (by omega) l3 i3, World.putObj_heap_same lt3, (World.putObj_heap_other (by omega)).trans d3⟩⟩
      | exit id =>
        obtain ⟨k3, i3⟩ := hp
        obtain ⟨hr, lt3, d3, r3, l3⟩ := fin (some (.exit id)) W3 k3
        exact ⟨_, _, hr, .inr ⟨rfl, .exit id, hIx _ _ _ _ _ _ (by omega) l3 i3, World.putObj_heap_same lt3, (World.putObj_heap_other (by omega)).trans d3⟩⟩
      | goto t =>
        obtain ⟨k3, i3⟩ := hp
        obtain ⟨hr, lt3, d3, r3, l3⟩ := fin (some (.goto t)) W3 k3
        exact ⟨_, _, hr, .inr ⟨rfl, .goto t, hIx _ _ _ _ _ _ (by omega) l3 i3, World.putObj_heap_same lt3, (World.putObj_heap_other (by omega)).trans d3⟩⟩
      | panic ch => exact hp.elim
      | outgrown => exact hp.elim
    · rintro e W2 ⟨⟨v, rfl⟩, (⟨Z, hi, hl, hd, zl, zd⟩ | ⟨pre, x, r, hx, c, hi, hl, hd⟩)⟩
      · have hl' := hl
        rw [hst] at hl'
        refine ⟨none, _, run_endLoop (P := P) hl' (by simp), hdone _ _ (hI _ (fun b => Z b ∨ b = L ∨ b = D) _ _ _ (some L) hi (grown_put _ _ _) (fun r e => by cases e; exact .inr (.inl rfl)) (fun b hb => .inl hb)) ((World.putObj_heap_other (by omega)).trans hd)⟩
      · have hl' := hl
        rw [hst] at hl'
        exact ⟨some c, _, run_endLoop (P := P) hl' (by simp), hstop c pre x r _ hx (hIx _ _ _ _ _ _ (by omega) hl' hi) ((World.putObj_heap_other (by omega)).trans hd)⟩
end
end Go.Proofs.Ytgfmplhpoblleaa.FailW
end
section
/- match: the iterator of Stream. -/
namespace Go.Proofs.Ytgfmplhpoblleaa.FailW
open Go.RowKit Go.Shelf Go.Lib Go.Proofs Go.Proofs.YtgfmplhpoblleaaW.PrintWords Go.Proofs.YtgfmplhpoblleaaW.PrintLast Go.Proofs.YtgfmplhpoblleaaW.PrintMore Go.Proofs.Ytgfmplhpoblleaa.PRank Go.Proofs.Ytgfmplhpoblleaa.PFB Go.Proofs.Ytgfmplhpoblleaa.RankW Go.Proofs.Ytgfmplhpoblleaa.SortOwn Go.Proofs.Ytgfmplhpoblleaa
open Go.Proofs.Ytgfmplhpoblleaa.Cmps hiding dedup
set_option linter.unusedVariables false
set_option linter.unusedSimpArgs false
attribute [local go_sem] Oper.semAt_some

/-- A row lies as it lay where its block does. -/
theorem own_same {w w' : World} {base : Nat} {e : TypeId} {size n : Nat} {v : Value} {xs : List Value} (h : w.ownsRow base e size v n xs) (hk : ∀ b, v.ownBlock = some b → w'.heap[b]? = w.heap[b]?) : w'.ownsRow base e size v n xs := by
  refine ⟨h.1, ?_⟩
  rcases h.2 with h2 | ⟨g, cap, cur, rfl, hg, hh, r⟩
  · exact .inl h2
  · exact .inr ⟨g, cap, cur, rfl, hg, (hk g (by simp [Value.ownBlock])).trans hh, r⟩
theorem Mt.same {w0 w w1 : World} {g : Nat} {p t : Addr} {l : List (List Int)} {s : St} {vl : Value} {ls : List Int} {at_ rd tk : Int} (h : Mt w0 w g p t l s vl ls at_ rd tk) (hb : Go.RowKit.Below w0.heap.size w w1) (h1 : w1.heap[g]? = w.heap[g]?) (h2 : ∀ b, vl.ownBlock = some b → w1.heap[b]? = w.heap[b]?) : Mt w0 w1 g p t l s vl ls at_ rd tk :=
  ⟨h.made, h.bw.trans hb, h1.trans h.blk, h.hg, own_same h.ln h2⟩
theorem R_same {α : Type} {d : Kd α} (hd : d.E = []) {e : Nat} {w w' : World} {base : Nat} {ok : Nat → Prop} {v : Value} {xs : List α} (hM : ∀ x cs, d.M w base (fun k => ok k ∧ some k ≠ v.ownBlock) x cs → d.M w' base (fun k => ok k ∧ some k ≠ v.ownBlock) x cs) (h : Kd.R d e w base ok v xs) (hk : ∀ b, v.ownBlock = some b → w'.heap[b]? = w.heap[b]?) : Kd.R d e w' base ok v xs := by
  obtain ⟨h0, inner, hown, hr⟩ := h
  exact ⟨h0, inner, own_same hown hk, hr.1, fun j p hj => hM _ _ (hr.2 j p hj)⟩
theorem hitsAll_snoc (l : List (List Int)) (c : Int) : ∀ (r s : List Int), hitsAll l s (r ++ [c]) = hitsAll l s r ++ hitsE l (lngT (textsOf l) (s ++ r ++ [c])) (((s ++ r).length : Int) + 1)
  | [], s => by simp [hitsAll]
  | a :: r, s => by
    rw [List.cons_append, hitsAll, hitsAll_snoc l c r (s ++ [a]), hitsAll, List.append_assoc]
    simp
def encH (x : S71) : Array Value := #[.agg #[.int .i64 x.f0, .int .i64 x.f1]]
/-- How many transitions a text has taken. -/
def tkT (l : List (List Int)) : List Int → List Int → Nat
  | _, [] => 0
  | s, c :: r => (1 + cnt (textsOf l) c ((lngT (textsOf l) s).length + 1) (lngT (textsOf l) s)) + tkT l (s ++ [c]) r
theorem tkT_snoc (l : List (List Int)) (c : Int) : ∀ (r s : List Int), tkT l s (r ++ [c]) = tkT l s r + (1 + cnt (textsOf l) c ((lngT (textsOf l) (s ++ r)).length + 1) (lngT (textsOf l) (s ++ r)))
  | [], s => by simp [tkT]
  | a :: r, s => by
    rw [List.cons_append, tkT, tkT_snoc l c r (s ++ [a]), tkT, List.append_assoc, List.singleton_append]
    omega
theorem hit_at {w : World} {A : Option Addr} {n : Nat} {l : List S71} (h : Kd.C k71 w A n l) (i : Nat) (hi : i < l.length) : ∃ ad, A = some ad ∧ w.cell? (ad.add (i * 2)) = some (.int .i64 l[i].f0) ∧ w.cell? ⟨(ad.add (i * 2)).block, (ad.add (i * 2)).off + 1, none⟩ = some (.int .i64 l[i].f1) := by
  obtain ⟨ad, e, h0, h1⟩ := at_T71 h (i : Int) (by omega) (by have := h.1; omega)
  have er : rd_T71 l (i : Int) = l[i] := by unfold rd_T71; simp [hi]
  rw [er] at h0 h1
  exact ⟨ad, e, h0, h1⟩
theorem tkT_few {l : List (List Int)} (hl : In 20 l) : ∀ (r s : List Int), tkT l s r + (lngT (textsOf l) (s ++ r)).length ≤ (lngT (textsOf l) s).length + 2 * r.length
  | [], s => by simp [tkT]
  | c :: r, s => by
    have h1 := cnt_few (kl_trie hl).1.closed c ((lngT (textsOf l) s).length + 1) (lngT (textsOf l) s) (by omega)
    have h2 := tkT_few hl r (s ++ [c])
    rw [← lngT_snoc (kl_trie hl).1.closed] at h1
    rw [tkT]
    simp only [List.append_assoc, List.singleton_append] at h2
    simp only [List.length_cons]
    omega
theorem hitsE_len (l : List (List Int)) (u : List Int) (rd : Int) : (hitsE l u rd).length ≤ l.length := by
  unfold hitsE
  rw [List.length_map]
  exact patT_len u l 0
theorem hitsAll_app (l : List (List Int)) : ∀ (r1 r2 s : List Int), hitsAll l s (r1 ++ r2) = hitsAll l s r1 ++ hitsAll l (s ++ r1) r2
  | [], r2, s => by simp [hitsAll]
  | a :: r1, r2, s => by
    rw [List.cons_append, hitsAll, hitsAll_app l r1 r2 (s ++ [a]), hitsAll, List.append_assoc]
    simp
set_option maxHeartbeats 4000000 in
set_option maxRecDepth 100000 in
theorem stream_own {w0 w : World} {g : Nat} {p t : Addr} {l : List (List Int)} {s : St} {vl : Value} {at_ rd tk : Int} (hM : Mt w0 w g p t l s vl (lens l) at_ rd tk) (hl : In 20 l) (he : l.any (·.isEmpty) = false) (B1 B2 : Nat) (At : Option Addr) (ct : Nat) (tx : List Int) (htx : tx.length ≤ 300)
    (hB1 : w.cell? ⟨B1, 0, none⟩ = some (.pointer (some ⟨g, 0, none⟩))) (hB2 : w.cell? ⟨B2, 0, none⟩ = some (.slice At tx.length ct)) (hT : w.ownsRow w0.heap.size 3 1 (.slice At tx.length ct) tx.length (encI tx)) :
    SeqOwn 3 Try.prog 94 #[.pointer (some ⟨B1, 0, none⟩), .pointer (some ⟨B2, 0, none⟩)] encH w0.heap.size (fun b => (Value.slice At tx.length ct).ownBlock = some b ∨ vl.ownBlock = some b) (fun _ => False) (hitsAll l [] tx) w := by
  obtain ⟨Al, cl, el⟩ := Kd.R_slice (show Kd.R (Kd.int .i64) 3 w w0.heap.size (fun _ => True) vl (lens l) from Kd.R_of_own hM.ln (fun _ _ => trivial))
  subst el
  intro lp J Jx W hW hJ hY h0
  have m0 := hM.below hW
  have b1 := cell_below hW hB1
  have b2 := cell_below hW hB2
  have c0 := m0.c0
  have c1 := m0.c1
  have c2 := m0.c2
  have c3 := m0.c3
  have c4 := m0.c4
  have HJ := Aside0.mk hJ
  have HY := Aside0.mk hY
  have H0 := Aside0.mk (And.intro h0 (And.intro m0 (own_same hT (fun b hb => hW.block b (own_lt hT b hb)))))
  have HI := Aside0.mk (And.intro hl he)
  clear hJ hY h0 m0 hl he hM hB1 hB2 hT
  refine callsIn_of_wp Try.func94 rfl trivial ?_ rfl
  simp only [Try.ntmps94, List.size_toArray, List.length_cons, List.length_nil, Nat.reduceAdd, Nat.reduceSub, Array.replicate_succ, Array.replicate_zero, List.push_toArray, List.append_toArray, List.nil_append, List.cons_append]
  refine wpIn_wide.2 ?_
  go_step3
  obtain ⟨W1, hW1⟩ : ∃ W1, W1 = W.alloc (.cells #[.pointer (some p), .slice Al (lens l).length cl, .int .i64 at_, .int .i64 rd, .int .i64 tk] 111) := ⟨_, rfl⟩
  obtain ⟨Z1, hZ1⟩ : ∃ Z1 : Nat → Prop, Z1 = fun b => b = W.heap.size := ⟨_, rfl⟩
  have mo : Mt w0 W1 W.heap.size p t l s (.slice Al (lens l).length cl) (lens l) at_ rd tk := by
    have m1 := H0.out.2.1.grows ((Grows.refl W).alloc (.cells #[.pointer (some p), .slice Al (lens l).length cl, .int .i64 at_, .int .i64 rd, .int .i64 tk] 111))
    rw [hW1]
    exact ⟨m1.made, m1.bw, heap_alloc_new _ _, H0.out.2.1.bw.size, m1.ln⟩
  have jo : J Z1 [] W1 := by
    refine HJ.out _ _ _ _ _ none H0.out.1 (by rw [hW1]; exact grown_alloc _ _) (fun r e => by cases e) (fun b hb => ?_)
    rw [hZ1] at hb
    rw [hW1]
    exact .inr ⟨by omega, by simp; omega⟩
  have H1 := Aside0.mk (And.intro mo (And.intro jo (And.intro hW1 hZ1)))
  clear mo jo hZ1
  go_wp2_with (go_at_call 59; rw [← hW1]; clear hW1; refine (reset_calls H1.out.1).mono ?_; rintro e w2 ⟨rfl, hm2, hg2⟩; have H2 := Aside0.mk (And.intro hm2 hg2); clear hm2 hg2)
  go_step3
  have hbt : ∀ b, (Value.slice At tx.length ct).ownBlock = some b → b < W.heap.size := own_lt H0.out.2.2
  have HBT := Aside0.mk hbt
  have hb2 : B2 < W.heap.size := World.block_lt_of_cell? _ _ b2
  have g12 : W.grownBy w2 (some W.heap.size) := ((grown_of_below (((Grows.refl W).alloc _).below : Go.RowKit.Below W.heap.size W (W.alloc (.cells #[.pointer (some p), .slice Al (lens l).length cl, .int .i64 at_, .int .i64 rd, .int .i64 tk] 111))) _)).trans (by rw [← H1.out.2.2.1]; exact H2.out.2)
  have t2 : w2.ownsRow w0.heap.size 3 1 (.slice At tx.length ct) tx.length (encI tx) := own_other H0.out.2.2 g12 (.inr (fun e => by have := hbt _ e; omega))
  have b22 : w2.cell? ⟨B2, 0, none⟩ = some (.slice At tx.length ct) := (World.cell?_of_block (g12.block B2 hb2 (by simp; omega))).trans b2
  have j2 : J Z1 [] w2 := HJ.out _ _ _ _ _ (some W.heap.size) H1.out.2.1 H2.out.2 (fun r e => by cases e; rw [H1.out.2.2.2]) (fun b hb => .inl hb)
  have H3 := Aside0.mk (And.intro H2.out.1 (And.intro t2 j2))
  clear g12 t2 j2 hbt
  go_wp2
  go_loopw [15] (fun iv wr => ∃ i : Nat, iv = .int .i64 i ∧ i ≤ tx.length ∧ Mt w0 wr W.heap.size p t l s (.slice Al (lens l).length cl) (lens l) ((textsOf l).idxOf (lngT (textsOf l) (tx.take i)) : Nat) i (tkT l [] (tx.take i)) ∧ wr.ownsRow w0.heap.size 3 1 (.slice At tx.length ct) tx.length (encI tx) ∧ J Z1 (hitsAll l [] (tx.take i)) wr) (fun iv wr => tx.length - (intOf iv).toNat)
  case atStart =>
    refine ⟨0, rfl, Nat.zero_le _, ?_, H3.out.2.1, H3.out.2.2⟩
    have h_ := H3.out.1
    rw [List.take_zero, lngT, (kl_trie HI.out.1).1.idx0]
    exact h_
  case round =>
    obtain ⟨i, rfl, hi, hM, hT, hJ⟩ := hrel
    by_cases hlt : i < tx.length
    · obtain ⟨bt, ct_, ebt⟩ := own_pos9 hT (by omega)
      injection ebt with q1 q2 q3
      subst q1 q3
      clear q2
      have hcell : wr.cell? ⟨bt, i, none⟩ = some (.int .i64 tx[i]) := own_cells hT (encI_at tx i hlt)
      obtain ⟨ch, hch⟩ : ∃ c, c = tx[i] := ⟨_, rfl⟩
      rw [← hch] at hcell
      obtain ⟨u, hu⟩ : ∃ u, u = lngT (textsOf l) (tx.take i) := ⟨_, rfl⟩
      obtain ⟨m, hm⟩ : ∃ m, m = (textsOf l).idxOf u := ⟨_, rfl⟩
      obtain ⟨tk0, htk0⟩ : ∃ k, k = tkT l [] (tx.take i) := ⟨_, rfl⟩
      obtain ⟨tn, htn⟩ : ∃ k, k = 1 + cnt (textsOf l) ch (u.length + 1) u := ⟨_, rfl⟩
      obtain ⟨q, hq⟩ : ∃ k, k = (textsOf l).idxOf (lngT (textsOf l) (u ++ [ch])) := ⟨_, rfl⟩
      obtain ⟨hs, hhs⟩ : ∃ k, k = hitsE l (lngT (textsOf l) (u ++ [ch])) ((i : Int) + 1) := ⟨_, rfl⟩
      obtain ⟨pre, hpre⟩ : ∃ k, k = hitsAll l [] (tx.take i) := ⟨_, rfl⟩
      rw [← hu, ← hm, ← htk0] at hM
      rw [← hpre] at hJ
      have hum : (textsOf l)[m]? = some u := by rw [hm, hu]; exact at_idx (lngT_mem (kl_trie HI.out.1).1.nil _)
      have htkb : tk0 ≤ 1000000 := by
        have h1 := tkT_few HI.out.1 (tx.take i) []
        rw [← htk0] at h1
        simp only [List.length_take, lngT, List.length_nil] at h1
        omega
      have eT : tx.take (i + 1) = tx.take i ++ [ch] := by rw [hch, List.take_append_getElem hlt]
      have eV : lngT (textsOf l) (u ++ [ch]) = lngT (textsOf l) (tx.take (i + 1)) := by rw [eT, hu, ← lngT_snoc (kl_trie HI.out.1).1.closed]
      have eL : (tx.take i).length = i := by rw [List.length_take]; omega
      have eA : hitsAll l [] (tx.take (i + 1)) = pre ++ hs := by rw [eT, hitsAll_snoc, ← hpre, hhs, eV, eT, List.nil_append, eL]
      have eK : tkT l [] (tx.take (i + 1)) = tk0 + tn := by rw [eT, tkT_snoc, ← htk0, htn, hu, List.nil_append]
      obtain ⟨R, hR⟩ : ∃ R, hitsAll l [] tx = pre ++ hs ++ R := ⟨hitsAll l ([] ++ tx.take (i + 1)) (tx.drop (i + 1)), by rw [← eA, ← hitsAll_app, List.take_append_drop]⟩
      have hhl : hs.length ≤ 20 := by rw [hhs]; have := hitsE_len l (lngT (textsOf l) (u ++ [ch])) ((i : Int) + 1); have := HI.out.1.len; omega
      have il : (i : Int) < (tx.length : Int) := by omega
      have HP := Aside0.mk (And.intro hM (And.intro hT (And.intro hJ (And.intro hum (And.intro htkb (And.intro hq (And.intro htn hhs)))))))
      have HQ := Aside0.mk (And.intro eV (And.intro eA (And.intro eK hR)))
      clear hM hT hJ hum htkb hq htn hhs eV eA eK hR eT eL hch hu hm htk0 hpre
      go_wp2_with (go_at_call 55; refine (feed_calls HP.out.1 HI.out.1 HI.out.2 HP.out.2.2.2.1 (by omega) HP.out.2.2.2.2.1 ch q tn HP.out.2.2.2.2.2.1 HP.out.2.2.2.2.2.2.1).mono ?_; rintro e wq ⟨vh, rfl, hRq, hMq, hgq⟩; rw [← HP.out.2.2.2.2.2.2.2] at hRq; obtain ⟨Ah, ch', rfl⟩ := Kd.R_slice hRq; have HF := Aside0.mk (And.intro hRq (And.intro hMq hgq)); clear hRq hMq hgq)
      obtain ⟨Z2, hZ2⟩ : ∃ Z2 : Nat → Prop, Z2 = fun b => Z1 b ∨ (Value.slice Ah hs.length ch').ownBlock = some b := ⟨_, rfl⟩
      have jq : J Z2 pre wq := by
        refine HJ.out _ _ _ _ _ (some W.heap.size) HP.out.2.2.1 HF.out.2.2 (fun r e => by cases e; rw [H1.out.2.2.2]) (fun b hb => ?_)
        rw [hZ2] at hb
        rcases hb with hb | hb
        · exact .inl hb
        · obtain ⟨_, inner, hown, _⟩ := HF.out.1
          exact .inr ⟨own_base hown b hb, own_lt hown b hb⟩
      have tq : wq.ownsRow w0.heap.size 3 1 (.slice (some ⟨bt, 0, none⟩) tx.length ct) tx.length (encI tx) := own_other HP.out.2.1 HF.out.2.2 (.inr (fun e => by have := HBT.out _ e; omega))
      have HG := Aside0.mk (And.intro jq (And.intro tq hZ2))
      clear jq tq hZ2
      go_loopw [22] (fun iv wk => ∃ k : Nat, iv = .int .i64 k ∧ k ≤ hs.length ∧ Mt w0 wk W.heap.size p t l s (.slice Al (lens l).length cl) (lens l) q ((i + 1 : Nat) : Int) ((tk0 + tn : Nat) : Int) ∧ wk.ownsRow w0.heap.size 3 1 (.slice (some ⟨bt, 0, none⟩) tx.length ct) tx.length (encI tx) ∧ Kd.R k71 71 wk wr.heap.size (fun _ => True) (.slice Ah hs.length ch') hs ∧ J Z2 (pre ++ hs.take k) wk) (fun iv wk => hs.length - (intOf iv).toNat)
      case atStart => exact ⟨0, rfl, Nat.zero_le _, HF.out.2.1, HG.out.2.1, HF.out.1, by rw [List.take_zero, List.append_nil]; exact HG.out.1⟩
      case round =>
        obtain ⟨k, rfl, hk, hMk, hTk, hRk, hJk⟩ := hrel
        by_cases hlk : k < hs.length
        · obtain ⟨A5, c5, e5, hl5, hC5⟩ := Kd.R_reads hRk
          injection e5 with q1 q2 q3
          subst q1 q3
          clear q2 hl5
          obtain ⟨ad, ead, x0, x1⟩ := hit_at hC5 k hlk
          subst ead
          clear hC5
          have kl : (k : Int) < (hs.length : Int) := by omega
          have HL := Aside0.mk (And.intro hMk (And.intro hTk (And.intro hRk hJk)))
          clear hMk hTk hRk hJk
          go_upto_region 8 with fail
          have jy := HJ.out _ _ _ _ _ none HL.out.2.2.2 (grown_alloc wr (.cells #[.int .i64 hs[k].f0, .int .i64 hs[k].f1] 71)) (fun r e => by cases e) (fun b hb => .inl hb)
          have hall : hitsAll l [] tx = (pre ++ hs.take k) ++ hs[k] :: (hs.drop (k + 1) ++ R) := by
            have e_ := List.take_append_drop k hs
            rw [List.drop_eq_getElem_cons hlk] at e_
            have e2_ : pre ++ hs ++ R = pre ++ (hs.take k ++ hs[k] :: hs.drop (k + 1)) ++ R := by rw [e_]
            rw [HQ.out.2.2.2, e2_]
            simp only [List.append_assoc, List.cons_append]
          obtain ⟨fn, tmps, assign, body, hy, hRy⟩ := HY.out Z2 (pre ++ hs.take k) hs[k] (hs.drop (k + 1) ++ R) _ jy hall
          have HALL := Aside0.mk hall
          clear hall
          dsimp only [encH] at hy
          have HR2 := Aside0.mk hRy
          clear hRy jy
          refine (wpIn_wide (n := 3)).1 ?_
          gi_wp2
          refine HR2.out.mono ?_
          rintro e W3 (⟨rfl, hJ3, hk3, hb3⟩ | ⟨rfl, hJx3⟩)
          · have HK := Aside0.mk (And.intro hJ3 (And.intro hk3 hb3))
            clear hJ3 hk3 hb3
            gi_wp2
            go_wp2
            have ny : Mt w0 (wr.alloc (.cells #[.int .i64 hs[k].f0, .int .i64 hs[k].f1] 71)) W.heap.size p t l s (.slice Al (lens l).length cl) (lens l) q ((i + 1 : Nat) : Int) ((tk0 + tn : Nat) : Int) := HL.out.1.grows ((Grows.refl wr).alloc _)
            have hz1 : ∀ b, Z1 b → Z2 b := fun b hb => by rw [HG.out.2.2]; exact .inl hb
            have kb : ∀ b, (Z2 b ∨ (Value.slice (some ⟨bt, 0, none⟩) tx.length ct).ownBlock = some b ∨ (Value.slice Al (lens l).length cl).ownBlock = some b) → b < wr.heap.size → W3.heap[b]? = wr.heap[b]? := fun b hb hlt => (HK.out.2.1 b hb).trans (Go.RowKit.Below.heap_alloc _ _ _ hlt)
            have rk : Kd.R k71 71 W3 _ (fun _ => True) (.slice (some ad) hs.length ch') hs := R_same (w := wr) (w' := W3) rfl (fun _ _ h => h) HL.out.2.2.1 (fun b hb => by
              obtain ⟨_, inner, hown, _⟩ := HL.out.2.2.1
              exact kb b (.inl (by rw [HG.out.2.2]; exact .inr hb)) (own_lt hown b hb))
            refine ⟨⟨k + 1, by go_num, by omega, ny.same HK.out.2.2 (HK.out.2.1 _ (.inl (hz1 _ (by rw [H1.out.2.2.2])))) (fun b hb => HK.out.2.1 b (.inr (.inr hb))), own_same HL.out.2.1 (fun b hb => kb b (.inr (.inl hb)) (own_lt HL.out.2.1 b hb)), rk, ?_⟩, by simp only [intOf]; omega⟩
            · have h_ := HK.out.1
              rw [List.append_assoc, List.take_append_getElem hlk] at h_
              exact h_
          · have HX := Aside0.mk hJx3
            clear hJx3
            gi_wp2
            go_wp2
            simp only [Exit.noGoto]
            go_end0
            exact ⟨⟨_, rfl⟩, .inr ⟨_, _, _, HALL.out, HX.out⟩⟩
        · have kl : ¬ ((k : Int) < (hs.length : Int)) := by omega
          have hkl : k = hs.length := by omega
          rw [hkl, List.take_length] at hJk
          have HL := Aside0.mk (And.intro hMk (And.intro hTk (And.intro hRk hJk)))
          clear hMk hTk hRk hJk
          go_wp2
          refine ⟨⟨i + 1, by go_num, by omega, ?_, HL.out.2.1, ?_⟩, by simp only [intOf]; omega⟩
          · rw [← HQ.out.1, ← HP.out.2.2.2.2.2.1, HQ.out.2.2.1]
            exact HL.out.1
          · rw [HQ.out.2.1]
            exact HJ.out _ _ _ _ _ none HL.out.2.2.2 ⟨rfl, rfl, rfl, Nat.le_refl _, fun _ _ _ => rfl⟩ (fun r e => by cases e) (fun b hb => .inl (by rw [HG.out.2.2]; exact .inl hb))
    · have il : ¬ ((i : Int) < (tx.length : Int)) := by omega
      have hil : i = tx.length := by omega
      rw [hil, List.take_length] at hJ
      have HE := Aside0.mk hJ
      clear hM hT hJ hil hlt
      go_wp2
      go_end0
      exact ⟨⟨_, rfl⟩, .inl ⟨Z1, HE.out⟩⟩
end Go.Proofs.Ytgfmplhpoblleaa.FailW
end
section
/- match: Stream; Collect over what streams. -/
namespace Go.Proofs.Ytgfmplhpoblleaa.FailW
open Go.RowKit Go.Shelf Go.Lib Go.Proofs Go.Proofs.YtgfmplhpoblleaaW.PrintWords Go.Proofs.YtgfmplhpoblleaaW.PrintLast Go.Proofs.YtgfmplhpoblleaaW.PrintMore Go.Proofs.Ytgfmplhpoblleaa.PRank Go.Proofs.Ytgfmplhpoblleaa.PFB Go.Proofs.Ytgfmplhpoblleaa.RankW Go.Proofs.Ytgfmplhpoblleaa.SortOwn Go.Proofs.Ytgfmplhpoblleaa
open Go.Proofs.Ytgfmplhpoblleaa.Cmps hiding dedup
set_option linter.unusedVariables false
set_option linter.unusedSimpArgs false
attribute [local go_sem] Oper.semAt_some

set_option maxHeartbeats 4000000 in
set_option maxRecDepth 100000 in
theorem stream_calls {w0 w : World} {g : Nat} {p t : Addr} {l : List (List Int)} {s : St} {vl : Value} {at_ rd tk : Int} (hM : Mt w0 w g p t l s vl (lens l) at_ rd tk) (hl : In 20 l) (he : l.any (·.isEmpty) = false) (A : Option Addr) (c : Nat) (tx : List Int) (hC : Kd.C (Kd.int .i64) w A tx.length tx) (htx : tx.length ≤ 300) :
    Calls Try.prog 53 #[.pointer (some ⟨g, 0, none⟩), .slice A tx.length c] w fun e w' => ∃ (B1 B2 : Nat) (K : Nat → Prop), e = .returned (.func (.func 94) #[] #[.pointer (some ⟨B1, 0, none⟩), .pointer (some ⟨B2, 0, none⟩)]) ∧ Go.RowKit.Below w.heap.size w w' ∧ (∀ b, K b → b < w'.heap.size) ∧
      SeqOwn 3 Try.prog 94 #[.pointer (some ⟨B1, 0, none⟩), .pointer (some ⟨B2, 0, none⟩)] encH w0.heap.size K (fun _ => False) (hitsAll l [] tx) w' := by
  have H := Aside0.mk (And.intro hM (And.intro hl (And.intro he hC)))
  clear hM hl he hC
  go_enter Try.func53, Try.ntmps53
  go_wp2_with ((go_at_call 87; refine (clone_ints A c tx _ (Kd.C_below H.out.2.2.2 (((Grows.refl w).alloc _).alloc _).below) (by omega)).mono ?_; rintro e w3 ⟨v, rfl, hv, hb3⟩; obtain ⟨A3, c3, rfl⟩ := Kd.R_slice hv; have k3 : w3.heap[w.heap.size + 1]? = some (.cells #[.slice A tx.length c] 23 (0, 0)) := (hb3.block _ (by simp)).trans (by have := heap_alloc_new (w.alloc (.cells #[.pointer (some ⟨g, 0, none⟩)] 65)) (.cells #[.slice A tx.length c] 23); rw [World.size_alloc] at this; exact this); have z3 := blk_frozen k3 0; have y3 : w3.cell? ⟨w.heap.size + 1, 0, none⟩ = some (.slice A tx.length c) := (blk_cell k3 0).trans rfl; have K3 := Aside0.mk k3; have G3 := Aside0.mk (And.intro hv hb3); clear hv hb3 k3))
  go_ret
  obtain ⟨W4, hW4⟩ : ∃ W4, W4 = w3.setCell ⟨w.heap.size + 1, 0, none⟩ (.slice A3 tx.length c3) := ⟨_, rfl⟩
  rw [← hW4]
  have s3 : w.heap.size + 2 ≤ w3.heap.size := by have := G3.out.2.size; simp at this; omega
  have hw3 : Go.RowKit.Below w.heap.size w w3 := (((Grows.refl w).alloc _).alloc _).below.trans (G3.out.2.mono (by simp; omega))
  have b4 : Go.RowKit.Below w.heap.size w W4 := by rw [hW4]; exact hw3.setCell (p := ⟨w.heap.size + 1, 0, none⟩) (by show w.heap.size ≤ w.heap.size + 1; omega) _
  have g4 : w3.grownBy W4 (some (w.heap.size + 1)) := by rw [hW4]; exact grownBy_set w3 ⟨w.heap.size + 1, 0, none⟩ _
  have m4 : Mt w0 W4 g p t l s vl (lens l) at_ rd tk := H.out.1.below b4
  have sz : w.heap.size ≤ w0.heap.size ∨ True := .inr trivial
  have hs4 : W4.heap.size = w3.heap.size := by rw [hW4]; simp [World.setCell, World.putObj]
  have c1 : W4.cell? ⟨w.heap.size, 0, none⟩ = some (.pointer (some ⟨g, 0, none⟩)) := by
    have h1 : w3.heap[w.heap.size]? = some (.cells #[.pointer (some ⟨g, 0, none⟩)] 65 (0, 0)) := (G3.out.2.block _ (by simp; omega)).trans ((Go.RowKit.Below.heap_alloc _ _ _ (by simp)).trans (heap_alloc_new _ _))
    rw [hW4]
    exact cell_set_far ((blk_cell h1 0).trans rfl) (by show w.heap.size ≠ w.heap.size + 1; omega)
  have c2 : W4.cell? ⟨w.heap.size + 1, 0, none⟩ = some (.slice A3 tx.length c3) := by
    have h1 := blk_set K3.out 0 (.slice A3 tx.length c3)
    rw [← hW4] at h1
    exact (blk_cell h1 0).trans rfl
  have hbase : w0.heap.size ≤ w.heap.size := H.out.1.bw.size
  have own3 := Kd.own_of_R G3.out.1
  have own4 : W4.ownsRow w0.heap.size 3 1 (.slice A3 tx.length c3) tx.length (encI tx) := by
    have h1 := Kd.R_lower G3.out.1 (show w0.heap.size ≤ _ from by simp; omega)
    refine own_other (Kd.own_of_R h1) g4 ?_
    exact own_ne_blk (Kd.own_of_R h1) K3.out (by decide)
  refine ⟨w.heap.size, w.heap.size + 1, _, rfl, b4, ?_, stream_own m4 H.out.2.1 H.out.2.2.1 w.heap.size (w.heap.size + 1) A3 c3 tx htx c1 c2 own4⟩
  intro b hb
  rcases hb with hb | hb
  · exact own_lt own4 b hb
  · exact own_lt m4.ln b hb
end Go.Proofs.Ytgfmplhpoblleaa.FailW
end
section
/- match: slices.AppendSeq and slices.Collect over what streams. -/
namespace Go.Proofs.Ytgfmplhpoblleaa.FailW
open Go.RowKit Go.Shelf Go.Lib Go.Proofs Go.Proofs.YtgfmplhpoblleaaW.PrintWords Go.Proofs.YtgfmplhpoblleaaW.PrintLast Go.Proofs.YtgfmplhpoblleaaW.PrintMore Go.Proofs.Ytgfmplhpoblleaa.PRank Go.Proofs.Ytgfmplhpoblleaa.PFB Go.Proofs.Ytgfmplhpoblleaa.RankW Go.Proofs.Ytgfmplhpoblleaa.SortOwn Go.Proofs.Ytgfmplhpoblleaa
open Go.Proofs.Ytgfmplhpoblleaa.Cmps hiding dedup
set_option linter.unusedVariables false
set_option linter.unusedSimpArgs false
attribute [local go_sem] Oper.semAt_some

/-- What AppendSeq keeps between two rounds. -/
def colI (w : World) (Z : Nat → Prop) (pre : List S71) (W : World) : Prop :=
  ∃ v, W.heap[w.heap.size]? = some (.cells #[v] 68 (0, 0)) ∧ Kd.R k71 71 W w.heap.size (fun _ => True) v pre ∧ Go.RowKit.Below w.heap.size w W ∧ ∀ b, Z b → w.heap.size < b ∧ v.ownBlock ≠ some b ∧ b < W.heap.size
theorem R_turn {w w' : World} {base : Nat} {ok : Nat → Prop} {v : Value} {xs : List S71} (h : Kd.R k71 71 w base ok v xs) (hk : ∀ b, v.ownBlock = some b → w'.heap[b]? = w.heap[b]?) : Kd.R k71 71 w' base ok v xs := R_same (w := w) (w' := w') rfl (fun _ _ h => h) h hk
theorem R_own_lt {w : World} {base : Nat} {ok : Nat → Prop} {v : Value} {xs : List S71} (h : Kd.R k71 71 w base ok v xs) : ∀ b, v.ownBlock = some b → b < w.heap.size ∧ base ≤ b := by
  obtain ⟨_, inner, hown, _⟩ := h
  exact fun b hb => ⟨own_lt hown b hb, own_base hown b hb⟩
theorem colI_turn {w : World} {Z Z' : Nat → Prop} {s : List S71} {A B : World} {row : Option Nat} (h : colI w Z s A) (hg : A.grownBy B row) (hr : ∀ r, row = some r → Z r) (hz : ∀ b, Z' b → Z b ∨ (A.heap.size ≤ b ∧ b < B.heap.size)) : colI w Z' s B := by
  obtain ⟨v, h1, h2, h3, h4⟩ := h
  have nz : ∀ b, ¬ Z b → b < A.heap.size → B.heap[b]? = A.heap[b]? := fun b hb hlt => hg.block b hlt (fun e => hb (hr b e.symm))
  have lt1 := blk_lt h1
  refine ⟨v, (nz _ (fun h => by have := (h4 _ h).1; omega) lt1).trans h1, R_turn h2 (fun b hb => nz b (fun h => (h4 b h).2.1 hb) (R_own_lt h2 b hb).1), ⟨hg.os.trans h3.os, hg.tape.trans h3.tape, hg.output.trans h3.output, Nat.le_trans h3.size hg.size, fun k hk => (nz k (fun h => by have := (h4 _ h).1; omega) (Nat.lt_of_lt_of_le hk h3.size)).trans (h3.block k hk)⟩, fun b hb => ?_⟩
  rcases hz b hb with h | h
  · exact ⟨(h4 b h).1, (h4 b h).2.1, Nat.lt_of_lt_of_le (h4 b h).2.2 hg.size⟩
  · exact ⟨by omega, fun e => by have := (R_own_lt h2 b e).1; omega, h.2⟩
theorem own_far {w : World} {base : Nat} {ok : Nat → Prop} {v : Value} {xs : List S71} {b : Nat} {cs : Array Value} (h : Kd.R k71 71 w base ok v xs) (hb : w.heap[b]? = some (.cells cs 68 (0, 0))) : v.ownBlock ≠ some b := by
  obtain ⟨_, inner, hown, _⟩ := h
  rcases own_ne_blk hown hb (by decide) with h1 | h1
  · rw [h1]; intro e; cases e
  · exact h1
/-- append(v, x) in a round. -/
theorem R_appendIn {l n : Nat} {P : Program} {ops : Array Oper} {rest : List Oper} {o : Oper} {a : Act} {Q : Exit → Act → World → Prop} {α : Type} (d : Kd α) {w0 W : World} (base : Nat) (hgd : o.guard = none) (hQ : ¬ LetsOut Q) (s x : Operand) (t e : TypeId) (z : Value) (bytes : Nat)
    (ho : o.op = .call { callee := .builtin .append, args := #[s, x], argTypes := #[t, t] })
    (ht : P.underlying t = some (.slice e)) (hinfo : (P.info? e).map (fun i => (i.zero, i.size, i.bytes)) = some (some z, d.sz, bytes)) (hz : z.cells.size = d.sz) (hs0 : 0 < d.sz) (hb0 : 0 < bytes)
    (v : Value) (xs : List α) (p : α) (cs : List Value) (ok okp : Nat → Prop) (hs : a.eval s = v) (hx : a.eval x = .slice (some ⟨W.heap.size, 0, none⟩) 1 1) (hp : d.M W base okp p cs) (hokp : ∀ k, okp k → ok k ∧ some k ≠ v.ownBlock) (hfresh : ∀ k, W.heap.size ≤ k → ok k)
    (HO : Kd.R d e W base ok v xs) (HB : Go.RowKit.Below base w0 W) (hbase : base ≤ W.heap.size) (hl : (xs.length + 1) * bytes ≤ 140737488355328)
    (h : ∀ v1 w1, Kd.R d e w1 base ok v1 (xs ++ [p]) → Go.RowKit.Below base w0 w1 → W.grownBy w1 v.ownBlock → (v1.ownBlock = v.ownBlock ∨ ∃ b, v1.ownBlock = some b ∧ W.heap.size ≤ b) → wpListIn (Fence.wide.inRound l) n P ops Q rest (a.put o.dst v1) w1) :
    wpListIn (Fence.wide.inRound l) n P ops Q (o :: rest) a (W.alloc (.cells cs.toArray e)) := by
  refine wpListIn_plain hgd fun K hK => wpIn_of_wp (by rw [ho]; intro c hc; cases hc) hQ ?_
  have hw : Region.wanted o (yielded #[] a.tmps) = true := by simp [Region.wanted, hgd]
  have h_ := Kd.R_append_step (P := P) (ops := #[]) (Q := Q) (Kc := K) (W := W) (w0 := w0) d base hw s x t e z bytes ho ht hinfo hz hs0 hb0 v xs p cs ok okp hs hx hp hokp hfresh HO HB hbase hl (fun v1 w1 h1 h2 h3 h4 => hK _ _ (h v1 w1 h1 h2 h3 h4))
  rw [if_pos hw] at h_
  exact h_
set_option maxHeartbeats 4000000 in
set_option maxRecDepth 100000 in
theorem appendSeq_calls {n0 : Nat} {K : Nat → Prop} {gf : Nat} {lb : Array Value} {xs : List S71} {w : World} (hseq : SeqOwn 3 Try.prog gf lb encH n0 K (fun _ => False) xs w) (eg : ∀ args w, (callFunc gf args).run Try.prog w = .ok (.enter gf args) w) (hn0 : n0 ≤ w.heap.size) (hK : ∀ b, K b → b < w.heap.size) (hx : xs.length ≤ 1000000) :
    Calls Try.prog 133 #[.slice none 0 0, .func (.func gf) #[] lb] w fun e w' => ∃ v, e = .returned v ∧ Kd.R k71 71 w' w.heap.size (fun _ => True) v xs ∧ Go.RowKit.Below w.heap.size w w' := by
  refine (callsIn_wide (n := 4)).1 ?_
  refine callsIn_of_wp_marks Try.func133 rfl trivial ?_ rfl
  simp only [Try.ntmps133, List.size_toArray, List.length_cons, List.length_nil, Nat.reduceAdd, Nat.reduceSub, Array.replicate_succ, Array.replicate_zero, List.push_toArray, List.append_toArray, List.nil_append, List.cons_append]
  refine wpIn_wide.2 ?_
  go_wp2
  obtain ⟨W1, hW1⟩ : ∃ W1, W1 = w.alloc (.cells #[.slice none 0 0] 68) := ⟨_, rfl⟩
  have hb1 : Go.RowKit.Below w.heap.size w W1 := by rw [hW1]; exact ((Grows.refl w).alloc _).below
  have h1 : W1.heap[w.heap.size]? = some (.cells #[.slice none 0 0] 68 (0, 0)) := by rw [hW1]; exact heap_alloc_new _ _
  rw [← hW1]
  have H1 := Aside0.mk (And.intro hb1 (And.intro h1 hW1))
  clear hb1 h1 hW1
  refine (wpIn_wide (n := 4)).1 ?_
  refine range_own (n := 4) (by omega) (gf := gf) (lb := lb) rfl eg hseq H1.out.1 (Nat.le_trans hn0 H1.out.1.size) (fun _ h => h.elim) (fun b hb => Nat.lt_of_lt_of_le (hK b hb) H1.out.1.size) (fun _ => rfl)
    (colI w) (fun Z s W => ∃ q, s.2.2 = { tmps := #[.slice none 0 0, .func (.func gf) #[] lb, .pointer (some ⟨w.heap.size, 0, none⟩), undef, .slice none 0 0, .pointer (some ⟨q, 0, none⟩), .func (.func gf) #[] lb, .agg #[.int .i64 s.2.1.f0, .int .i64 s.2.1.f1], undef, undef, undef, undef, undef], defers := [] } ∧ W.heap[q]? = some (.cells #[.int .i64 s.2.1.f0, .int .i64 s.2.1.f1] 71 (0, 0)) ∧ ¬ Z q ∧ w.heap.size < q ∧ colI w Z s.1 W)
    (fun _ _ _ => False) (fun Z Z' s A B row h hg hr hz => colI_turn h hg hr hz) ?ax (fun _ _ _ _ _ _ _ _ h => h) ?h0 ?assign ?body ?done ?stop
  case ax =>
    rintro Z Z' ⟨pre, x, a'⟩ A B row ⟨q, e, h1, h2, h3, h4⟩ hg hr hz
    refine ⟨q, e, blk_grown h1 hg (fun e => h2 (hr q e.symm)), fun h => ?_, h3, colI_turn h4 hg hr hz⟩
    rcases hz q h with h | h
    · exact h2 h
    · have := blk_lt h1; omega
  case h0 => exact ⟨_, H1.out.2.1, Kd.R_nil _ _ _ _ _, H1.out.1, fun b hb => hb.elim⟩
  case stop => rintro c pre x r W _ h _; exact h.elim
  case assign =>
    rintro l Z pre x r W Kc hI hx2 hK2
    unfold encH
    obtain ⟨v, g1, g2, g3, g4⟩ := hI
    have HG := Aside0.mk (And.intro g1 (And.intro g2 (And.intro g3 g4)))
    clear g1 g2 g3 g4
    gi_wp2
    have lt1 := blk_lt HG.out.1
    have gr := grown_alloc W (.cells #[.int .i64 x.f0, .int .i64 x.f1] 71)
    refine hK2 _ _ (fun b hb => ?_) (((Grows.refl W).alloc _).below.mono (Nat.le_trans hn0 (by omega))) ⟨W.heap.size, rfl, heap_alloc_new _ _, fun h => by have := (HG.out.2.2.2 _ h).2.2; omega, lt1, colI_turn ⟨v, HG.out⟩ gr (fun r e => by cases e) (fun b hb => .inl hb)⟩
    refine Go.RowKit.Below.heap_alloc _ _ _ ?_
    rcases hb with hb | hb
    · exact (HG.out.2.2.2 b hb).2.2
    · have := hK b hb; omega
  case body =>
    rintro l Z pre x r a' W ⟨q, ha, h1, h2, h3, v, g1, g2, g3, g4⟩ hx2
    dsimp only at ha h1 g2
    subst ha
    obtain ⟨A0, c0, rfl⟩ := Kd.R_slice g2
    have y0 : W.cell? ⟨w.heap.size, 0, none⟩ = some (.slice A0 pre.length c0) := (blk_cell g1 0).trans rfl
    have y1 : W.cell? ⟨q, 0, none⟩ = some (.int .i64 x.f0) := (blk_cell h1 0).trans rfl
    have y2 : W.cell? ⟨q, 1, none⟩ = some (.int .i64 x.f1) := (blk_cell h1 1).trans rfl
    have hlen : pre.length + 1 ≤ 1000000 := by have := congrArg List.length hx2; simp at this; omega
    have lt1 := blk_lt g1
    have HG := Aside0.mk (And.intro g1 (And.intro g2 (And.intro g3 g4)))
    have HH := Aside0.mk (And.intro h1 (And.intro h2 h3))
    clear g1 g2 g3 g4 h1 h2 h3
    gi_wp2_with (gi_at_builtin; refine R_appendIn k71 (w0 := w) w.heap.size rfl (by rintro ⟨a_, w_, h_⟩; exact h_) (.tmp 8) (.tmp 10) 68 71 (.agg #[(.int .i64 0), (.int .i64 0)]) 16 rfl Try.underlying68 info71 rfl (by decide) (by omega) (.slice A0 pre.length c0) pre x [.int .i64 x.f0, .int .i64 x.f1] (fun _ => True) (fun _ => False) rfl rfl (k71_mkM _ _ _ x) (fun _ hk => hk.elim) (fun _ _ => trivial) HG.out.2.1 HG.out.2.2.1 (by omega) (by omega) ?_; intro v2 w2 ho2 hb2 hg2 hat2; obtain ⟨A2, c2, rfl⟩ := Kd.R_slice ho2; have k2 := blk_grown HG.out.1 hg2 (fun e => by have := own_far HG.out.2.1 HG.out.1; exact this e.symm); have y2 : w2.cell? ⟨w.heap.size, 0, none⟩ = some (.slice A0 pre.length c0) := (blk_cell k2 0).trans rfl; have z2 := blk_frozen k2 0; have HO := Aside0.mk (And.intro ho2 (And.intro hb2 (And.intro hg2 (And.intro hat2 k2)))); clear ho2 hb2 hg2 hat2 k2)
    obtain ⟨W3, hW3⟩ : ∃ W3, W3 = w2.setCell ⟨w.heap.size, 0, none⟩ (.slice A2 (pre.length + 1) c2) := ⟨_, rfl⟩
    have hE : (pre ++ [x]).length = pre.length + 1 := by simp
    rw [← hW3]
    have ho1 := HO.out.1
    rw [hE] at ho1
    have g23 : w2.grownBy W3 (some w.heap.size) := by rw [hW3]; exact grownBy_set w2 ⟨w.heap.size, 0, none⟩ _
    have keep : ∀ b, b < W.heap.size → b ≠ w.heap.size → (Value.slice A0 pre.length c0).ownBlock ≠ some b → W3.heap[b]? = W.heap[b]? := fun b h1 h2 h3 => (g23.block b (Nat.lt_of_lt_of_le h1 HO.out.2.2.1.size) (fun e => h2 (by injection e))).trans (HO.out.2.2.1.block b h1 (fun e => h3 e.symm))
    refine ⟨fun b hb => ?_, ⟨g23.os.trans HO.out.2.2.1.os, g23.tape.trans HO.out.2.2.1.tape, g23.output.trans HO.out.2.2.1.output, Nat.le_trans HO.out.2.2.1.size g23.size, fun b hb => keep b (by omega) (by omega) (fun e => by have := (R_own_lt HG.out.2.1 b e).2; omega)⟩, .slice A2 (pre.length + 1) c2, ?_, R_turn ho1 (fun b hb => g23.block b (R_own_lt ho1 b hb).1 (fun e => own_far ho1 HO.out.2.2.2.2 (by rw [← e]; exact hb))), ?_, fun b hb => ⟨(HG.out.2.2.2 b hb).1, fun e => ?_, ?_⟩⟩
    · rcases hb with hb | hb
      · exact keep b (HG.out.2.2.2 b hb).2.2 (by have := (HG.out.2.2.2 b hb).1; omega) (HG.out.2.2.2 b hb).2.1
      · have := hK b hb
        exact keep b (by omega) (by omega) (fun e => by have := (R_own_lt HG.out.2.1 b e).2; omega)
    · have h_ := blk_set HO.out.2.2.2.2 0 (.slice A2 (pre.length + 1) c2)
      rw [← hW3] at h_
      exact h_
    · rw [hW3]
      exact HO.out.2.1.setCell (p := ⟨w.heap.size, 0, none⟩) (Nat.le_refl _) _
    · have hat := HO.out.2.2.2.1
      rw [hE] at hat
      rcases hat with h | ⟨b', h, h2⟩
      · exact (HG.out.2.2.2 b hb).2.1 (by rw [← h]; exact e)
      · rw [e] at h
        injection h with h
        have := (HG.out.2.2.2 b hb).2.2
        omega
    · exact Nat.lt_of_lt_of_le (HG.out.2.2.2 b hb).2.2 (Nat.le_trans HO.out.2.2.1.size g23.size)
  case done =>
    rintro Z W ⟨v, g1, g2, g3, g4⟩ hD
    have y0 : W.cell? ⟨w.heap.size, 0, none⟩ = some v := (blk_cell g1 0).trans rfl
    have HG := Aside0.mk (And.intro g1 (And.intro g2 (And.intro g3 g4)))
    clear g1 g2 g3 g4
    gi_wp2
    go_wp2
    refine ⟨by simp, .inl ⟨_, _, rfl, run_takeDeferred hD, ?_⟩⟩
    refine ⟨_, results_tmp rfl _ _ _, ?_⟩
    refine ⟨v, rfl, R_turn HG.out.2.1 (fun b hb => World.putObj_heap_other (fun e => ?_)), HG.out.2.2.1.trans (below_put W W1.heap.size w.heap.size _ H1.out.1.size)⟩
    subst e
    obtain ⟨_, inner, hown, _⟩ := HG.out.2.1
    rcases hown.2 with ⟨e1, _⟩ | ⟨g_, cap_, cur_, e1, _, hh, _⟩
    · rw [e1] at hb; cases hb
    · rw [e1] at hb
      simp only [Value.ownBlock, Option.some.injEq] at hb
      rw [hb, hD] at hh
      cases hh
set_option maxRecDepth 100000 in
theorem collect_calls {n0 : Nat} {K : Nat → Prop} {gf : Nat} {lb : Array Value} {xs : List S71} {w : World} (hseq : SeqOwn 3 Try.prog gf lb encH n0 K (fun _ => False) xs w) (eg : ∀ args w, (callFunc gf args).run Try.prog w = .ok (.enter gf args) w) (hn0 : n0 ≤ w.heap.size) (hK : ∀ b, K b → b < w.heap.size) (hx : xs.length ≤ 1000000) :
    Calls Try.prog 105 #[.func (.func gf) #[] lb] w fun e w' => ∃ v, e = .returned v ∧ Kd.R k71 71 w' w.heap.size (fun _ => True) v xs ∧ Go.RowKit.Below w.heap.size w w' := by
  have H := Aside0.mk (appendSeq_calls hseq eg hn0 hK hx)
  clear hseq eg hn0 hK
  go_enter Try.func105, Try.ntmps105
  go_wp2_with (go_at_call 133; refine H.out.mono ?_; rintro e w2 ⟨v, rfl, hR, hb⟩; have H2 := Aside0.mk (And.intro hR hb); clear hR hb)
  go_ret
  exact ⟨v, rfl, H2.out.1, H2.out.2⟩
end Go.Proofs.Ytgfmplhpoblleaa.FailW
end
section
/- match: how hits compare; SortFunc over hits; Find. -/
namespace Go.Proofs.Ytgfmplhpoblleaa.FailW
open Go.RowKit Go.Shelf Go.Lib Go.Proofs Go.Sort Go.Proofs.YtgfmplhpoblleaaW.PrintWords Go.Proofs.YtgfmplhpoblleaaW.PrintLast Go.Proofs.YtgfmplhpoblleaaW.PrintMore Go.Proofs.Ytgfmplhpoblleaa.PRank Go.Proofs.Ytgfmplhpoblleaa.PFB Go.Proofs.Ytgfmplhpoblleaa.RankW Go.Proofs.Ytgfmplhpoblleaa.SortOwn Go.Proofs.Ytgfmplhpoblleaa
open Go.Proofs.Ytgfmplhpoblleaa.Cmps hiding dedup
set_option linter.unusedVariables false
set_option linter.unusedSimpArgs false

/-- How two hits compare. -/
def cmpH (x y : S71) : Int := orI [cmpI x.f1 y.f1, cmpI x.f0 y.f0]
theorem cmpH_lt (x y : S71) : cmpH x y < 0 ↔ ltH x y := by
  unfold cmpH ltH cmpI
  simp only [orI]
  split <;> split <;> (try split) <;> (try split) <;> (try split) <;> simp <;> omega
theorem cmpH_swo : SWO (ltOf cmpH) := by
  refine ⟨fun x => ?_, fun x y z h1 h2 => ?_, fun x y z h1 h2 => ?_⟩
  all_goals (simp only [ltOf, decide_eq_true_eq, decide_eq_false_iff_not, cmpH_lt] at *; unfold ltH at *; omega)
set_option maxHeartbeats 2000000 in
set_option maxRecDepth 100000 in
theorem hitcmp_grows (x y : S71) (w : World) :
    Calls Try.prog 92 #[.agg #[.int .i64 x.f0, .int .i64 x.f1], .agg #[.int .i64 y.f0, .int .i64 y.f1]] w fun e w' => e = .returned (.int .i64 (cmpH x y)) ∧ Grows w w' := by
  go_enter Try.func92, Try.ntmps92
  go_wp2_with fail
  have G0 := Aside0.mk (((Grows.refl w).alloc (.cells #[.int .i64 x.f0, .int .i64 x.f1] 71)).alloc (.cells #[.int .i64 y.f0, .int .i64 y.f1] 71))
  have b1 : ((w.alloc (.cells #[.int .i64 x.f0, .int .i64 x.f1] 71)).alloc (.cells #[.int .i64 y.f0, .int .i64 y.f1] 71)).heap[w.heap.size]? = some (.cells #[.int .i64 x.f0, .int .i64 x.f1] 71 (0, 0)) := (Below.heap_alloc _ _ _ (by simp)).trans (blk_new _ _)
  have b2 : ((w.alloc (.cells #[.int .i64 x.f0, .int .i64 x.f1] 71)).alloc (.cells #[.int .i64 y.f0, .int .i64 y.f1] 71)).heap[w.heap.size + 1]? = some (.cells #[.int .i64 y.f0, .int .i64 y.f1] 71 (0, 0)) := by have := blk_new (w.alloc (.cells #[.int .i64 x.f0, .int .i64 x.f1] 71)) (Obj.cells #[.int .i64 y.f0, .int .i64 y.f1] 71); simpa using this
  obtain ⟨B1, hB1⟩ : ∃ B1, B1 = w.heap.size := ⟨_, rfl⟩
  obtain ⟨B2, hB2⟩ : ∃ B2, B2 = w.heap.size + 1 := ⟨_, rfl⟩
  generalize ((w.alloc (.cells #[.int .i64 x.f0, .int .i64 x.f1] 71)).alloc (.cells #[.int .i64 y.f0, .int .i64 y.f1] 71)) = W at G0 b1 b2 ⊢
  rw [← hB2] at b2 ⊢
  rw [← hB1] at b1 ⊢
  have k0 : W.cell? ⟨B1, 0, none⟩ = some (.int .i64 x.f0) := (cells_of_blk b1).1 0
  have k1 : W.cell? ⟨B1, 1, none⟩ = some (.int .i64 x.f1) := (cells_of_blk b1).1 1
  have m0 : W.cell? ⟨B2, 0, none⟩ = some (.int .i64 y.f0) := (cells_of_blk b2).1 0
  have m1 : W.cell? ⟨B2, 1, none⟩ = some (.int .i64 y.f1) := (cells_of_blk b2).1 1
  clear b1 b2 hB1 hB2
  go_region_held3 (fun w' => w'.cell? ⟨B1, 0, none⟩ = some (.int .i64 x.f0) ∧ w'.cell? ⟨B1, 1, none⟩ = some (.int .i64 x.f1) ∧ w'.cell? ⟨B2, 0, none⟩ = some (.int .i64 y.f0) ∧ w'.cell? ⟨B2, 1, none⟩ = some (.int .i64 y.f1))
    (first | exact ⟨k0, k1, m0, m1⟩ | go_keep)
    ((first
      | (go_simp; go_at_call 66; refine (cmp_calls _ _ _).mono ?_; rintro e w2 ⟨rfl, ⟨q, rfl⟩⟩)
      | (go_simp; go_at_call 65; refine (or_calls _ _ [_, _] _ (lit_C _ [_, _] _ (by simp)) (by simp) (by simp)).mono ?_; rintro e w2 ⟨rfl, ⟨q, rfl⟩⟩)))
  go_wp2
  go_ret
  exact ⟨rfl, ((G0.out.drewN _).alloc _).drewN _⟩
/-- A row of hits of the call's own is sorted. -/
theorem sorthits_calls {w : World} {base : Nat} {v : Value} {xs : List S71} (hR : Kd.R k71 71 w base (fun _ => True) v xs) (hx : xs.length ≤ 1000000) :
    Calls Try.prog 106 #[v, .func (.func 92) #[] #[]] w fun e w' => e = .returned (.tuple #[]) ∧ ∃ ys : List S71, ys.Perm xs ∧ ys.Pairwise (fun a b => ¬ ltH b a) ∧ Kd.R k71 71 w' base (fun _ => True) v ys ∧ w.grownBy w' v.ownBlock := by
  obtain ⟨h0, inner, hown, hrep⟩ := hR
  have h := sort_row Try.sortHits 2 (by decide) Try.isAgg71 Try.sizeOf71 (fun (x : S71) c => c = [.int .i64 x.f0, .int .i64 x.f1]) (fun b c h => by rw [h]; rfl) (fun b c h u hu => by
      rw [h] at hu
      simp only [List.mem_cons, List.not_mem_nil, or_false] at hu
      rcases hu with rfl | rfl <;> rfl) cmpH cmpH_swo 92 #[] w (enters_of Try.func92 (by kernel_rfl) rfl) base 71 v xs inner (by omega)
    (fun W' hg x c y c' hx hy => by subst hx; subst hy; exact hitcmp_grows x y W')
    hown ⟨hrep.1, fun j x hx => k71_openM (hrep.2 j x hx)⟩
  change Calls Try.prog 106 _ _ _ at h
  refine h.mono ?_
  rintro e w1 ⟨rfl, ys, cells, hp, hs, hr, ho, hg⟩
  refine ⟨rfl, ys, hp, hs.imp (fun {a b} h => by rwa [cmpH_lt] at h), ⟨fun _ _ => trivial, cells, ho, hr.1, fun j x hx => ?_⟩, hg⟩
  have h_ := hr.2 j x hx
  show k71.M w1 base _ x (List.take 2 (List.drop (j * 2) cells))
  rw [h_]
  exact k71_mkM _ _ _ x
set_option maxRecDepth 100000 in
theorem sortedFunc_calls {n0 : Nat} {K : Nat → Prop} {gf : Nat} {lb : Array Value} {xs : List S71} {w : World} (hseq : SeqOwn 3 Try.prog gf lb encH n0 K (fun _ => False) xs w) (eg : ∀ args w, (callFunc gf args).run Try.prog w = .ok (.enter gf args) w) (hn0 : n0 ≤ w.heap.size) (hK : ∀ b, K b → b < w.heap.size) (hx : xs.length ≤ 1000000) :
    Calls Try.prog 91 #[.func (.func gf) #[] lb, .func (.func 92) #[] #[]] w fun e w' => ∃ v ys, e = .returned v ∧ Kd.R k71 71 w' w.heap.size (fun _ => True) v ys ∧ ys.Perm xs ∧ ys.Pairwise (fun a b => ¬ ltH b a) ∧ Go.RowKit.Below w.heap.size w w' := by
  have H := Aside0.mk (collect_calls hseq eg hn0 hK hx)
  clear hseq eg hn0 hK
  go_enter Try.func91, Try.ntmps91
  go_wp2_with (first
    | (go_at_call 105; refine H.out.mono ?_; rintro e w2 ⟨v, rfl, hR, hb⟩; have H2 := Aside0.mk (And.intro hR hb); clear hR hb)
    | (go_at_call 106; refine (sorthits_calls H2.out.1 hx).mono ?_; rintro e w3 ⟨rfl, ys, hp, hs, hR, hg⟩; have H3 := Aside0.mk (And.intro hp (And.intro hs (And.intro hR hg))); clear hp hs hR hg))
  go_ret
  refine ⟨v, ys, rfl, H3.out.2.2.1, H3.out.1, H3.out.2.1, H2.out.2.grown H3.out.2.2.2 H2.out.2.size (fun k hk => (R_own_lt H2.out.1 k hk).2)⟩
theorem hitsAll_len (l : List (List Int)) : ∀ (r s : List Int), (hitsAll l s r).length ≤ l.length * r.length
  | [], s => by simp [hitsAll]
  | c :: r, s => by
    rw [hitsAll, List.length_append, List.length_cons, Nat.mul_succ]
    have := hitsE_len l (lngT (textsOf l) (s ++ [c])) ((s.length : Int) + 1)
    have := hitsAll_len l r (s ++ [c])
    omega
set_option maxRecDepth 100000 in
theorem mfind_calls {w0 w : World} {g : Nat} {p t : Addr} {l : List (List Int)} {s : St} {vl : Value} {at_ rd tk : Int} (hM : Mt w0 w g p t l s vl (lens l) at_ rd tk) (hl : In 20 l) (he : l.any (·.isEmpty) = false) (A : Option Addr) (c : Nat) (tx : List Int) (hC : Kd.C (Kd.int .i64) w A tx.length tx) (htx : tx.length ≤ 300) :
    Calls Try.prog 51 #[.pointer (some ⟨g, 0, none⟩), .slice A tx.length c] w fun e w' => ∃ v, e = .returned v ∧ Kd.R k71 71 w' w.heap.size (fun _ => True) v (findD l tx 0 tx.length) ∧ Go.RowKit.Below w.heap.size w w' := by
  have hlen : (hitsAll l [] tx).length ≤ 1000000 := by
    have h1 := hitsAll_len l tx []
    have h2 : l.length * tx.length ≤ 20 * 300 := Nat.mul_le_mul hl.len htx
    omega
  have H := Aside0.mk (And.intro (stream_calls hM hl he A c tx hC htx) (And.intro hM.bw.size (And.intro hlen (And.intro hl he))))
  clear hM hl he hC hlen
  go_enter Try.func51, Try.ntmps51
  go_wp2_with (first
    | (go_at_call 53; refine H.out.1.mono ?_; rintro e w2 ⟨B1, B2, K, rfl, hb, hK, hS⟩; have H2 := Aside0.mk (And.intro hb (And.intro hK hS)); clear hb hK hS)
    | (go_at_call 91; refine (sortedFunc_calls H2.out.2.2 (enters_of Try.func94 (by kernel_rfl) rfl) (Nat.le_trans H.out.2.1 H2.out.1.size) H2.out.2.1 H.out.2.2.1).mono ?_; rintro e w3 ⟨v, ys, rfl, hR, hp, hs, hb⟩; have H3 := Aside0.mk (And.intro hR (And.intro hp (And.intro hs hb))); clear hR hp hs hb))
  go_ret
  have e1 := sorted_found l (fun q hq e => by
    have := List.any_eq_false.1 H.out.2.2.2.2 q hq
    rw [e] at this
    simp at this) tx ys H3.out.2.1 H3.out.2.2.1
  rw [← e1]
  exact ⟨v, rfl, Kd.R_lower H3.out.1 H2.out.1.size, H2.out.1.trans (H3.out.2.2.2.mono H2.out.1.size)⟩
end Go.Proofs.Ytgfmplhpoblleaa.FailW
end
section
/- match: New of an empty pattern; Contains; the document's example. -/
namespace Go.Proofs.Ytgfmplhpoblleaa.FailW
open Go.RowKit Go.Shelf Go.Lib Go.Proofs Go.Proofs.YtgfmplhpoblleaaW.PrintWords Go.Proofs.YtgfmplhpoblleaaW.PrintLast Go.Proofs.YtgfmplhpoblleaaW.PrintMore Go.Proofs.Ytgfmplhpoblleaa.PRank Go.Proofs.Ytgfmplhpoblleaa.PFB Go.Proofs.Ytgfmplhpoblleaa.RankW Go.Proofs.Ytgfmplhpoblleaa.SortOwn Go.Proofs.Ytgfmplhpoblleaa
open Go.Proofs.Ytgfmplhpoblleaa.Cmps hiding dedup
set_option linter.unusedVariables false
set_option linter.unusedSimpArgs false

/-- A row of one pattern that a call writes down. -/
theorem lit_one {W : World} {b : Nat} {A : Option Addr} {c : Nat} {p : List Int} {ty : TypeId} (h : W.heap[b]? = some (.cells #[.slice A p.length c] ty (0, 0))) (hC : Kd.C (Kd.int .i64) W A p.length p) (hc : p.length ≤ c) : Kd.C (Kd.slice 3 (Kd.int .i64)) W (some ⟨b, 0, none⟩) 1 [p] := by
  refine ⟨by simp, by omega, fun _ => ⟨_, rfl, fun j x hj => ?_⟩⟩
  obtain ⟨rfl, rfl⟩ : j = 0 ∧ x = p := by
    cases j with
    | zero => exact ⟨rfl, by simpa using hj.symm⟩
    | succ j => simp at hj
  refine ⟨[.slice A x.length c], rfl, ⟨_, _, rfl, hc, hC⟩, ?_⟩
  intro i u hi
  cases i with
  | zero =>
    simp at hi
    subst hi
    have e : (Addr.mk b 0 none).add (0 * (Kd.slice 3 (Kd.int IntKind.i64)).sz + 0) = ⟨b, 0, none⟩ := by unfold Addr.add; simp
    rw [e, blk_cell h]
    rfl
  | succ i => simp at hi
theorem lit_hits {W : World} {b : Nat} (l : List S71) {ty : TypeId} (h : W.heap[b]? = some (.cells (l.flatMap fun x => [Value.int .i64 x.f0, .int .i64 x.f1]).toArray ty (0, 0))) (hl : l.length ≤ 1000000) : Kd.C k71 W (some ⟨b, 0, none⟩) l.length l := by
  have key : ∀ (l : List S71) (j : Nat) (x : S71), l[j]? = some x → (l.flatMap fun x => [Value.int .i64 x.f0, .int .i64 x.f1])[j * 2]? = some (.int .i64 x.f0) ∧ (l.flatMap fun x => [Value.int .i64 x.f0, .int .i64 x.f1])[j * 2 + 1]? = some (.int .i64 x.f1) := by
    intro l
    induction l with
    | nil => intro j x h; simp at h
    | cons y r ih =>
      intro j x h
      cases j with
      | zero => simp at h; subst h; simp
      | succ j =>
        have := ih j x (by simpa using h)
        rw [List.flatMap_cons, show (j + 1) * 2 = j * 2 + 2 by omega, show j * 2 + 2 + 1 = (j * 2 + 1) + 2 by omega]
        simpa using this
  refine ⟨rfl, by omega, fun _ => ⟨_, rfl, fun j x hj => ⟨[.int .i64 x.f0, .int .i64 x.f1], rfl, k71_mk W x, ?_⟩⟩⟩
  obtain ⟨h0, h1⟩ := key l j x hj
  intro i u hi
  have e : (Addr.mk b 0 none).add (j * k71.sz + i) = ⟨b, j * 2 + i, none⟩ := by
    show (Addr.mk b 0 none).add (j * 2 + i) = _
    unfold Addr.add; split <;> simp_all
  rw [e, blk_cell h]
  rw [List.getElem?_toArray]
  rcases i with _ | _ | i
  · simp at hi; subst hi; exact h0
  · simp at hi; subst hi; exact h1
  · simp at hi
set_option maxRecDepth 100000 in
theorem mnew_empty_calls (A : Option Addr) (c : Nat) (l : List (List Int)) (w : World) (hC : Kd.C kRows w A l.length l) (hlen : l.length ≤ 65536) (htot : FailW.total l ≤ 1000000) (he : l.any (·.isEmpty) = true) :
    Calls Try.prog 50 #[.slice A l.length c] w fun e w' => e = .returned (.tuple #[.pointer none, .int .i64 37]) ∧ Go.RowKit.Below w.heap.size w w' := by
  have H := Aside0.mk (new_empty_calls A c l w hC hlen htot he)
  clear hC he
  go_enter Try.func50, Try.ntmps50
  go_wp2_with (go_at_call 36; refine H.out.mono ?_; rintro e w2 ⟨rfl, hb⟩; have H2 := Aside0.mk hb; clear hb)
  go_ret2
  exact ⟨rfl, H2.out⟩
/-- match.New, told of its patterns' number. -/
theorem mnew_n (A : Option Addr) (n c : Nat) (l : List (List Int)) (w : World) (hn : l.length = n) (hC : Kd.C kRows w A n l) (hl : In 20 l) (he : l.any (·.isEmpty) = false) :
    Calls Try.prog 50 #[.slice A n c] w fun e w' => ∃ (w0 : World) (g : Nat), e = .returned (.tuple #[.pointer (some ⟨g, 0, none⟩), .int .i64 0]) ∧ (∃ (s : St) (p t : Addr) (vl : Value), Mt w0 w' g p t l s vl (lens l) 0 0 0) ∧ Go.RowKit.Below w.heap.size w w' ∧ w.heap.size ≤ w0.heap.size := by
  subst hn
  obtain ⟨s, hs, hF⟩ := links_ok (kl_trie hl).1
  refine (mnew_calls A c l w hC hl he hs).mono ?_
  rintro e w' ⟨w0, g, rfl, ⟨p, t, vl, hM⟩, hb, hz⟩
  exact ⟨w0, g, rfl, ⟨s, p, t, vl, hM⟩, hb, hz⟩
theorem mnew_empty_n (A : Option Addr) (n c : Nat) (l : List (List Int)) (w : World) (hn : l.length = n) (hC : Kd.C kRows w A n l) (hlen : l.length ≤ 65536) (htot : FailW.total l ≤ 1000000) (he : l.any (·.isEmpty) = true) :
    Calls Try.prog 50 #[.slice A n c] w fun e w' => e = .returned (.tuple #[.pointer none, .int .i64 37]) ∧ Go.RowKit.Below w.heap.size w w' := by
  subst hn
  exact mnew_empty_calls A c l w hC hlen htot he
theorem con_nil (t : List Int) : conD t [] 0 (t.length + 1) = true := (conD_iff t [] _ _).2 ⟨0, by omega, by omega, by unfold stB; simp⟩
set_option maxHeartbeats 2000000 in
set_option maxRecDepth 100000 in
theorem mcontains_calls (At : Option Addr) (ct : Nat) (tx : List Int) (Ap : Option Addr) (cp : Nat) (p : List Int) (w : World) (hT : Kd.C (Kd.int .i64) w At tx.length tx) (hP : Kd.C (Kd.int .i64) w Ap p.length p) (hcp : p.length ≤ cp) (htx : tx.length ≤ 300) (hp : p.length ≤ 20) :
    Calls Try.prog 60 #[.slice At tx.length ct, .slice Ap p.length cp] w fun e w' => e = .returned (.bool (conD tx p 0 (tx.length + 1))) ∧ Go.RowKit.Below w.heap.size w w' := by
  have HB := Aside0.mk (Go.RowKit.Below.refl w.heap.size w)
  have hin : In 20 [p] := ⟨by simp, by simpa using hp⟩
  have hC1 : Kd.C kRows (w.alloc (.cells #[.slice Ap p.length cp] 23)) (some ⟨w.heap.size, 0, none⟩) 1 [p] := lit_one (heap_alloc_new _ _) (Kd.C_alloc hP _) hcp
  have H := Aside0.mk (And.intro hC1 (And.intro hT hin))
  clear hC1 hT hP
  cases hpe : p.isEmpty with
  | true =>
    obtain rfl : p = [] := List.isEmpty_iff.1 hpe
    rw [con_nil]
    clear hpe
    go_enter Try.func60, Try.ntmps60
    go_wp2_with (go_at_call 50; refine (mnew_empty_n _ 1 1 [[]] _ rfl H.out.1 (by simp) (by simp [FailW.total]) rfl).mono ?_; rintro e w2 ⟨rfl, hb⟩; have n_ := Aside0.mk (below_step (by repeat (first | (with_reducible first | exact HB.out | apply below_alloc | apply pw_below_drewN | apply below_drew1) | exact HB.out)) hb); clear HB; have HB := n_; clear n_; clear hb)
    go_ret
    exact ⟨rfl, (by repeat (first | (with_reducible first | exact HB.out | apply below_alloc | apply pw_below_drewN | apply below_drew1) | exact HB.out))⟩
  | false =>
    have hne : p ≠ [] := fun e => by rw [e] at hpe; simp at hpe
    have hf := con_found p tx hne
    obtain ⟨F, hF⟩ : ∃ F, F = findD [p] tx 0 tx.length := ⟨_, rfl⟩
    rw [← hF] at hf
    have hfb : F.length ≤ 1000000 ∨ True := .inr trivial
    have e1 : decide (0 < (F.length : Int)) = conD tx p 0 (tx.length + 1) := by rw [← hf]; rw [decide_eq_decide]; omega
    have HF := Aside0.mk (And.intro hF (And.intro e1 (And.intro hpe hf)))
    clear hF hf hpe hfb
    go_enter Try.func60, Try.ntmps60
    go_wp2_with (first
      | (go_at_call 50; refine (mnew_n _ 1 1 [p] _ rfl H.out.1 H.out.2.2 (by simp [HF.out.2.2.1])).mono ?_; rintro e w2 ⟨w0, g, rfl, ⟨s, pp, t, vl, hM⟩, hb, hz⟩; have HM := Aside0.mk hM; have n_ := Aside0.mk (below_step (by repeat (first | (with_reducible first | exact HB.out | apply below_alloc | apply pw_below_drewN | apply below_drew1) | exact HB.out)) hb); clear HB; have HB := n_; clear n_; clear hM hb hz)
      | (go_at_call 51; refine (mfind_calls HM.out H.out.2.2 (by simp [HF.out.2.2.1]) At ct tx (Kd.C_below H.out.2.1 (by repeat (first | (with_reducible first | exact HB.out | apply below_alloc | apply pw_below_drewN | apply below_drew1) | exact HB.out))) htx).mono ?_; rintro e w3 ⟨v, rfl, hR, hb⟩; rw [← HF.out.1] at hR; obtain ⟨A9, c9, rfl⟩ := Kd.R_slice hR; have n_ := Aside0.mk (below_step (by repeat (first | (with_reducible first | exact HB.out | apply below_alloc | apply pw_below_drewN | apply below_drew1) | exact HB.out)) hb); clear HB; have HB := n_; clear n_; clear hR hb))
    go_ret
    exact ⟨by simp; exact HF.out.2.2.2, (by repeat (first | (with_reducible first | exact HB.out | apply below_alloc | apply pw_below_drewN | apply below_drew1) | exact HB.out))⟩
end Go.Proofs.Ytgfmplhpoblleaa.FailW
end
section
/- match: the document's example. -/
namespace Go.Proofs.Ytgfmplhpoblleaa.FailW
open Go.RowKit Go.Shelf Go.Lib Go.Proofs Go.Proofs.YtgfmplhpoblleaaW.PrintWords Go.Proofs.YtgfmplhpoblleaaW.PrintLast Go.Proofs.YtgfmplhpoblleaaW.PrintMore Go.Proofs.Ytgfmplhpoblleaa.PRank Go.Proofs.Ytgfmplhpoblleaa.PFB Go.Proofs.Ytgfmplhpoblleaa.RankW Go.Proofs.Ytgfmplhpoblleaa.SortOwn Go.Proofs.Ytgfmplhpoblleaa
open Go.Proofs.Ytgfmplhpoblleaa.Cmps hiding dedup
set_option linter.unusedVariables false
set_option linter.unusedSimpArgs false

theorem rsame_self {x : List S71} (hx : x.length ≤ 1000000) {k : Nat} (hk : 1000001 ≤ k) : paronymref24_Same.f k x x = some true := by
  obtain ⟨b, h1, h2⟩ := rsame_f (x := x) (y := x) hx hk
  rw [h1, h2.2 rfl]
/-- Same, told of two lists that are one. -/
theorem same_self (A0 : Option Addr) (n0 c0 : Nat) (A1 : Option Addr) (n1 c1 : Nat) (x : List S71) (w : World) (hn0 : x.length = n0) (hn1 : x.length = n1) (hr0 : Kd.C k71 w A0 n0 x) (hc0 : n0 ≤ c0) (hr1 : Kd.C k71 w A1 n1 x) (hc1 : n1 ≤ c1) (hx : x.length ≤ 1000000) :
    Calls Try.prog 57 #[.slice A0 n0 c0, .slice A1 n1 c1] w fun e w' => e = .returned (.bool true) ∧ Drawn0 w w' := by
  subst hn0
  subst hn1
  exact paronymref24_Same.calls 6000000 A0 c0 x A1 c1 x true w hr0 hc0 hr1 hc1 (rsame_self hx (by omega))
def exQ : List (List Int) := [[1, 2], [2]]
def exT : List Int := [1, 2, 2]
def exF : List S71 := [⟨0, 0⟩, ⟨1, 1⟩, ⟨1, 2⟩]
theorem exF_eq : findD exQ exT 0 exT.length = exF := by kernel_rfl
/-- Find, told of its text's length. -/
theorem mfind_n {w0 w : World} {g : Nat} {p t : Addr} {l : List (List Int)} {s : St} {vl : Value} {at_ rd tk : Int} (hM : Mt w0 w g p t l s vl (lens l) at_ rd tk) (hl : In 20 l) (he : l.any (·.isEmpty) = false) (A : Option Addr) (n c : Nat) (tx : List Int) (F : List S71) (hn : tx.length = n) (hF : findD l tx 0 tx.length = F) (hC : Kd.C (Kd.int .i64) w A n tx) (htx : n ≤ 300) :
    Calls Try.prog 51 #[.pointer (some ⟨g, 0, none⟩), .slice A n c] w fun e w' => ∃ A' c', e = .returned (.slice A' F.length c') ∧ F.length ≤ c' ∧ Kd.C k71 w' A' F.length F ∧ Go.RowKit.Below w.heap.size w w' := by
  subst hn
  refine (mfind_calls hM hl he A c tx hC htx).mono ?_
  rintro e w' ⟨v, rfl, hR, hb⟩
  rw [hF] at hR
  obtain ⟨A', c', rfl, h1, h2⟩ := Kd.R_reads hR
  exact ⟨A', c', rfl, h1, h2, hb⟩
set_option maxHeartbeats 4000000 in
set_option maxRecDepth 100000 in
theorem awake24_calls (w : World) : Calls Try.prog 49 #[] w fun e w' => e = .returned (.bool true) ∧ Go.RowKit.Below w.heap.size w w' := by
  have HB := Aside0.mk (Go.RowKit.Below.refl w.heap.size w)
  obtain ⟨W1, hW1⟩ : ∃ W1, W1 = ((w.alloc (Obj.cells #[Value.int IntKind.i64 1, Value.int IntKind.i64 2] 3)).alloc (Obj.cells #[Value.int IntKind.i64 2] 3)).alloc (Obj.cells #[Value.slice (some { block := w.heap.size, off := 0 }) 2 2, Value.slice (some { block := w.heap.size + 1, off := 0 }) 1 1] 23) := ⟨_, rfl⟩
  have hC : Kd.C (Kd.slice 3 (Kd.int .i64)) W1 (some ⟨w.heap.size + 1 + 1, 0, none⟩) 2 exQ := by
    refine lit_rows (ty := 23) [(w.heap.size, [1, 2]), (w.heap.size + 1, [2])] ?_ (by simp) ?_
    · rw [hW1]; simp only [heap_al, sz_al]; simp
    · intro p hp
      simp only [List.mem_cons, List.not_mem_nil, or_false] at hp
      rcases hp with rfl | rfl
      · refine ⟨by simp, 3, ?_⟩
        rw [hW1]; simp only [heap_al, sz_al]; simp [nn2, encI, encs]
      · refine ⟨by simp, 3, ?_⟩
        rw [hW1]; simp only [heap_al, sz_al]; simp [nn2, encI, encs]
  have hin : In 20 exQ := ⟨by decide, by decide⟩
  have he : exQ.any (·.isEmpty) = false := by decide
  have hl2 : exQ.length = 2 := rfl
  have hF := exF_eq
  have hl3 : exT.length = 3 := rfl
  have hf3 : exF.length = 3 := rfl
  have htx : ∀ W : World, Kd.C (Kd.int .i64) (W.alloc (.cells #[.int .i64 1, .int .i64 2, .int .i64 2] 3)) (some ⟨W.heap.size, 0, none⟩) 3 exT := fun W => lit_ints exT (heap_alloc_new _ _) (by decide)
  have hfx : ∀ W : World, Kd.C k71 (W.alloc (.cells #[.int .i64 0, .int .i64 0, .int .i64 1, .int .i64 1, .int .i64 1, .int .i64 2] 71)) (some ⟨W.heap.size, 0, none⟩) 3 exF := fun W => lit_hits exF (heap_alloc_new _ _) (by decide)
  generalize exQ = l at hC hin he hl2 hF
  generalize exT = tx at hl3 hF htx
  generalize exF = F at hF hf3 hfx
  have HC := Aside0.mk (And.intro hC (And.intro hin (And.intro he (And.intro hl2 (And.intro hF (And.intro hl3 (And.intro hf3 (And.intro htx hfx))))))))
  have HW := Aside0.mk hW1
  clear hC hin he hl2 hF hl3 htx hfx hW1 hf3
  go_enter Try.func49, Try.ntmps49
  go_wp2_with (first
    | (go_at_call 50; rw [← HW.out]; have n_ := Aside0.mk (show Go.RowKit.Below w.heap.size w W1 by rw [HW.out]; repeat (first | (with_reducible first | exact HB.out | apply below_alloc | apply pw_below_drewN | apply below_drew1) | exact HB.out)); clear HB; have HB := n_; clear n_; go_loud (refine (mnew_n (some ⟨w.heap.size + 1 + 1, 0, none⟩) 2 2 l W1 HC.out.2.2.2.1 HC.out.1 HC.out.2.1 HC.out.2.2.1).mono ?_); rintro e w2 ⟨w0, g, rfl, ⟨s, pp, t, vl, hM⟩, hb, hz⟩; have HM := Aside0.mk hM; have n_ := Aside0.mk (below_step (by repeat (first | (with_reducible first | exact HB.out | apply below_alloc | apply pw_below_drewN | apply below_drew1) | exact HB.out)) hb); clear HB; have HB := n_; clear n_; clear hM hb hz)
    | (go_at_call 51; go_loud (refine (mfind_n (HM.out.grows ((Grows.refl w2).alloc _)) HC.out.2.1 HC.out.2.2.1 (some ⟨w2.heap.size, 0, none⟩) 3 3 tx F HC.out.2.2.2.2.2.1 HC.out.2.2.2.2.1 (HC.out.2.2.2.2.2.2.2.1 w2) (by omega)).mono ?_); rintro e w3 ⟨A3, c3, rfl, hc3, hC3, hb⟩; have H3 := Aside0.mk (And.intro hc3 hC3); have n_ := Aside0.mk (below_step (by repeat (first | (with_reducible first | exact HB.out | apply below_alloc | apply pw_below_drewN | apply below_drew1) | exact HB.out)) hb); clear HB; have HB := n_; clear n_; clear hb hc3 hC3)
    | (go_at_call 57; go_loud (refine (same_self A3 F.length c3 (some ⟨w3.heap.size, 0, none⟩) 3 3 F _ rfl HC.out.2.2.2.2.2.2.1 (Kd.C_alloc H3.out.2 _) H3.out.1 (HC.out.2.2.2.2.2.2.2.2 w3) (by omega) (by have := HC.out.2.2.2.2.2.2.1; omega)).mono ?_); rintro e w4 ⟨rfl, ⟨nd, rfl⟩⟩))
  go_ret
  exact ⟨by first | rfl | simp, (by repeat (first | (with_reducible first | exact HB.out | apply below_alloc | apply pw_below_drewN | apply below_drew1) | exact HB.out))⟩
end Go.Proofs.Ytgfmplhpoblleaa.FailW
end
section
/- match: rows of hits, cell by cell; append(all, hits...). -/
namespace Go.Proofs.Ytgfmplhpoblleaa.FailW
open Go.RowKit Go.Shelf Go.Lib Go.Proofs Go.Proofs.YtgfmplhpoblleaaW.PrintWords Go.Proofs.YtgfmplhpoblleaaW.PrintLast Go.Proofs.YtgfmplhpoblleaaW.PrintMore Go.Proofs.Ytgfmplhpoblleaa.PRank Go.Proofs.Ytgfmplhpoblleaa.PFB Go.Proofs.Ytgfmplhpoblleaa.RankW Go.Proofs.Ytgfmplhpoblleaa.SortOwn Go.Proofs.Ytgfmplhpoblleaa
open Go.Proofs.Ytgfmplhpoblleaa.Cmps hiding dedup
set_option linter.unusedVariables false
set_option linter.unusedSimpArgs false

/-- A hit's cells. -/
def encL (x : S71) : List Value := [.int .i64 x.f0, .int .i64 x.f1]
theorem flat_of : ∀ (xs : List S71) (inner : List Value), inner.length = xs.length * 2 → (∀ j p, xs[j]? = some p → (inner.drop (j * 2)).take 2 = encL p) → inner = xs.flatMap encL
  | [], inner, hl, _ => by
    have : inner = [] := List.length_eq_zero_iff.1 (by simpa using hl)
    rw [this]; rfl
  | x :: r, inner, hl, h => by
    have h0 := h 0 x rfl
    rw [Nat.zero_mul, List.drop_zero] at h0
    have ih := flat_of r (inner.drop 2) (by rw [List.length_drop, hl, List.length_cons]; omega) (fun j p hj => by
      have := h (j + 1) p (by simpa using hj)
      rw [List.drop_drop]
      rw [show 2 + j * 2 = (j + 1) * 2 by omega]
      exact this)
    rw [List.flatMap_cons, ← ih, ← h0, List.take_append_drop]
theorem flat_len (xs : List S71) : (xs.flatMap encL).length = xs.length * 2 := by
  induction xs with
  | nil => rfl
  | cons x r ih => rw [List.flatMap_cons, List.length_append, ih, List.length_cons]; simp [encL]; omega
theorem flat_at : ∀ (xs : List S71) (j : Nat) (p : S71), xs[j]? = some p → ((xs.flatMap encL).drop (j * 2)).take 2 = encL p
  | [], j, p, h => by simp at h
  | x :: r, 0, p, h => by
    simp at h; subst h
    rw [List.flatMap_cons, Nat.zero_mul, List.drop_zero]
    exact List.take_left' rfl
  | x :: r, j + 1, p, h => by
    rw [List.flatMap_cons, show (j + 1) * 2 = (encL x).length + j * 2 by simp [encL]; omega, List.drop_append]
    have e : (encL x).drop ((encL x).length + j * 2) = [] := List.drop_of_length_le (by omega)
    rw [e, List.nil_append, show (encL x).length + j * 2 - (encL x).length = j * 2 by omega]
    exact flat_at r j p (by simpa using h)
theorem R71_own {w : World} {base : Nat} {ok : Nat → Prop} {v : Value} {xs : List S71} (h : Kd.R k71 71 w base ok v xs) : w.ownsRow base 71 2 v xs.length (xs.flatMap encL) := by
  obtain ⟨h0, inner, hown, hrep⟩ := h
  have e := flat_of xs inner hrep.1 (fun j p hj => k71_openM (hrep.2 j p hj))
  rw [← e]
  exact hown
theorem R71_of {w : World} {base : Nat} {v : Value} {xs : List S71} (h : w.ownsRow base 71 2 v xs.length (xs.flatMap encL)) : Kd.R k71 71 w base (fun _ => True) v xs := by
  refine ⟨fun _ _ => trivial, xs.flatMap encL, h, flat_len xs, fun j p hj => ?_⟩
  show k71.M w base _ p (((xs.flatMap encL).drop (j * 2)).take 2)
  rw [flat_at xs j p hj]
  exact k71_mkM _ _ _ p
theorem enc_one {xs : List S71} : ∀ u ∈ xs.flatMap encL, u.oneCell' = true := by
  intro u hu
  obtain ⟨x, hx, h⟩ := List.mem_flatMap.1 hu
  simp only [encL, List.mem_cons, List.not_mem_nil, or_false] at h
  rcases h with rfl | rfl <;> rfl
section
variable {ops : Array Oper} {rest : List Oper} {o : Oper} {a : Act} {Q : Exit → Act → World → Prop}
theorem append_hits {w : World} (hgd : o.guard = none) (s x : Operand) (ho : o.op = .call { callee := .builtin .append, args := #[s, x], argTypes := #[68, 68] })
    (base base2 : Nat) (v : Value) (xs : List S71) (A : Option Addr) (n c : Nat) (ys : List S71) (hs : a.eval s = v) (hx : a.eval x = .slice A n c) (HO : Kd.R k71 71 w base (fun _ => True) v xs) (HY : Kd.R k71 71 w base2 (fun _ => True) (.slice A n c) ys) (hbase : base ≤ w.heap.size) (hl : xs.length + ys.length ≤ 1000000)
    (h : ∀ v1 w1, Kd.R k71 71 w1 base (fun _ => True) v1 (xs ++ ys) → w.grownBy w1 v.ownBlock → wpList Try.prog ops Q rest (a.put o.dst v1) w1) : wpList Try.prog ops Q (o :: rest) a w := by
  obtain ⟨i71, hi71, hz71, hsz71, hby71⟩ := info_parts info71
  have hO := R71_own HO
  have hY := R71_own HY
  rcases hY.2 with ⟨e1, e2⟩ | ⟨g, cap, cur, e1, hg, hh, r⟩
  · injection e1 with q1 q2 q3
    subst q1 q2 q3
    have hy0 : ys = [] := List.length_eq_zero_iff.1 e2
    subst hy0
    refine wpList_append_own_none hgd s x 68 ho base 71 i71 2 Try.underlying68 hi71 v xs.length (xs.flatMap encL) hs hO hx ?_
    exact h v w (by rw [List.append_nil]; exact HO) ⟨rfl, rfl, rfl, Nat.le_refl _, fun _ _ _ => rfl⟩
  · injection e1 with q1 q2 q3
    subst q1 q2 q3
    obtain ⟨v', w', hrun, r1, r2, r3⟩ := run_append_own (P := Try.prog) w base 68 o.type 71 i71 (.agg #[(.int .i64 0), (.int .i64 0)]) 2 16 Try.underlying68 hi71 hz71 hsz71 hby71 rfl (by omega) v xs.length (xs.flatMap encL) hO ⟨g, 0, none⟩ ys.length c (ys.flatMap encL) (flat_len ys)
      (fun j u hj => by
        have e : (Addr.mk g 0 none).add j = ⟨g, j, none⟩ := by unfold Addr.add; split <;> simp_all
        rw [e]
        exact own_cells hY hj) enc_one (by unfold maxLen; omega) (by omega) hbase
    refine wpList_plain hgd fun K hK => ?_
    unfold Oper.wp
    simp [execOp, ho, resolve, invoke, builtin, hs, hx, hrun, Result.andThen]
    exact hK _ _ (h v' w' (R71_of (by rw [List.length_append, List.flatMap_append]; exact r1)) r2)
end
/-! ### A matcher that has read a text's beginning -/
/-- It has read so many numbers of this text. -/
def MtT (w0 w : World) (g : Nat) (p t : Addr) (l : List (List Int)) (s : St) (vl : Value) (tx : List Int) (k : Nat) : Prop := Mt w0 w g p t l s vl (lens l) ((textsOf l).idxOf (lngT (textsOf l) (tx.take k)) : Nat) k (tkT l [] (tx.take k))
theorem R_keep {w w' : World} {base : Nat} {ok : Nat → Prop} {v : Value} {xs : List S71} (h : Kd.R k71 71 w base ok v xs) (hb : Go.RowKit.Below w.heap.size w w') : Kd.R k71 71 w' base ok v xs := R_turn h (fun b hb2 => hb.block b (R_own_lt h b hb2).1)
theorem tkT_more (l : List (List Int)) : ∀ (r s : List Int), r.length ≤ tkT l s r
  | [], s => by simp [tkT]
  | c :: r, s => by
    have := tkT_more l r (s ++ [c])
    rw [tkT, List.length_cons]
    omega
theorem tkT_2 {l : List (List Int)} (hl : In 20 l) (r : List Int) : tkT l [] r ≤ 2 * r.length := by
  have := tkT_few hl r []
  simp only [lngT, List.length_nil] at this
  omega
section
variable {w0 w w1 : World} {g : Nat} {p t : Addr} {l : List (List Int)} {s : St} {vl : Value} {tx : List Int} {k : Nat}
theorem MtT.zero (h : Mt w0 w g p t l s vl (lens l) 0 0 0) (hl : In 20 l) : MtT w0 w g p t l s vl tx 0 := by
  unfold MtT
  rw [List.take_zero, lngT, (kl_trie hl).1.idx0]
  exact h
theorem MtT.below (h : MtT w0 w g p t l s vl tx k) (hb : Go.RowKit.Below w.heap.size w w1) : MtT w0 w1 g p t l s vl tx k := Mt.below h hb
theorem MtT.other (h : MtT w0 w g p t l s vl tx k) {row : Option Nat} (hg : w.grownBy w1 row) (hr : ∀ r, row = some r → w0.heap.size ≤ r ∧ r ≠ g ∧ vl.ownBlock ≠ some r) : MtT w0 w1 g p t l s vl tx k := Mt.other h hg hr
/-- Feed, told of what has been read. -/
theorem feedT (hk : k < tx.length) (h : MtT w0 w g p t l s vl tx k) (hl : In 20 l) (he : l.any (·.isEmpty) = false) (htx : tx.length ≤ 300) {ch : Int} (hch : ch = tx[k]) :
    Calls Try.prog 55 #[.pointer (some ⟨g, 0, none⟩), .int .i64 ch] w fun e w' => ∃ (hs : List S71) (A5 : Option Addr) (c5 : Nat), e = .returned (.slice A5 hs.length c5) ∧ hitsAll l [] (tx.take (k + 1)) = hitsAll l [] (tx.take k) ++ hs ∧ hs.length ≤ 20 ∧ Kd.R k71 71 w' w.heap.size (fun _ => True) (.slice A5 hs.length c5) hs ∧ MtT w0 w' g p t l s vl tx (k + 1) ∧ w.grownBy w' (some g) := by
  have eT : tx.take (k + 1) = tx.take k ++ [ch] := by rw [hch, List.take_append_getElem hk]
  have eL : (tx.take k).length = k := by rw [List.length_take]; omega
  have eV : lngT (textsOf l) (lngT (textsOf l) (tx.take k) ++ [ch]) = lngT (textsOf l) (tx.take (k + 1)) := by rw [eT, ← lngT_snoc (kl_trie hl).1.closed]
  have hum : (textsOf l)[(textsOf l).idxOf (lngT (textsOf l) (tx.take k))]? = some (lngT (textsOf l) (tx.take k)) := at_idx (lngT_mem (kl_trie hl).1.nil _)
  have htk := tkT_2 hl (tx.take k)
  refine (feed_calls h hl he hum (by omega) (by omega) ch _ _ rfl rfl).mono ?_
  rintro e w' ⟨v, rfl, hR, hM, hg⟩
  obtain ⟨A5, c5, rfl⟩ := Kd.R_slice hR
  refine ⟨_, A5, c5, rfl, ?_, ?_, hR, ?_, hg⟩
  · rw [eT, hitsAll_snoc, eV, eT, List.nil_append, eL]
  · have := hitsE_len l (lngT (textsOf l) (lngT (textsOf l) (tx.take k) ++ [ch])) ((k : Int) + 1)
    have := hl.len
    omega
  · unfold MtT
    rw [← eV]
    have eK : tkT l [] (tx.take (k + 1)) = tkT l [] (tx.take k) + (1 + cnt (textsOf l) ch ((lngT (textsOf l) (tx.take k)).length + 1) (lngT (textsOf l) (tx.take k))) := by rw [eT, tkT_snoc, List.nil_append]
    rw [eK]
    exact hM
end
end Go.Proofs.Ytgfmplhpoblleaa.FailW
end
