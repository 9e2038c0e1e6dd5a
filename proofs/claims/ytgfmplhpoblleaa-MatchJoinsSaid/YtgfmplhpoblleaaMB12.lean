/- FailRb, Lit, FailY, FailYb, PFBx6, FailRc, FailYm, PFBx7, PFBx1, PFBx5, MatA, MatB. -/
import Derived.Test.YtgfmplhpoblleaaMB4
import Derived.Test.YtgfmplhpoblleaaMB5
import Derived.Test.YtgfmplhpoblleaaMB7
import Derived.Test.YtgfmplhpoblleaaMB9
import Derived.Test.YtgfmplhpoblleaaMB11
import Derived.Deep.AppendLies
import Derived.Deep.RegionHeld3
section
/- Outputs and patterns of a trie's nodes: the program's are the document's. -/
namespace Go.Proofs.Ytgfmplhpoblleaa.FailW
open Go.RowKit Go.Shelf Go.Lib Go.Proofs Go.Proofs.YtgfmplhpoblleaaW.PrintWords Go.Proofs.YtgfmplhpoblleaaW.PrintLast Go.Proofs.YtgfmplhpoblleaaW.PrintMore Go.Proofs.Ytgfmplhpoblleaa.PRank Go.Proofs.Ytgfmplhpoblleaa.PFB Go.Proofs.Ytgfmplhpoblleaa.RankW Go.Proofs.Ytgfmplhpoblleaa.SortOwn Go.Proofs.Ytgfmplhpoblleaa
open Go.Proofs.Ytgfmplhpoblleaa.Cmps hiding dedup
set_option linter.unusedVariables false
set_option linter.unusedSimpArgs false

/-- The node of the longest end that is a pattern's text. -/
def outT (ts l : List (List Int)) : Nat → List Int → Int
  | 0, _ => -1
  | k + 1, u => if u = [] then -1 else if (endsF 0 l u).length > 0 then ((ts.idxOf u : Nat) : Int) else outT ts l k (lngT ts u.tail)
theorem lng_tail_lt (ts : List (List Int)) {u : List Int} (h : u ≠ []) : (lngT ts u.tail).length < u.length := by
  have hpos : 0 < u.length := List.length_pos_iff.2 h
  have hl := lngT_len ts u.tail
  rw [List.length_tail] at hl
  omega
theorem outT_more (ts l : List (List Int)) : ∀ (d e : Nat) (u : List Int), u.length < d → u.length < e → outT ts l d u = outT ts l e u
  | 0, _, _, h, _ => absurd h (by omega)
  | _, 0, _, _, h => absurd h (by omega)
  | d + 1, e + 1, u, h1, h2 => by
    rw [outT, outT]
    split
    · rfl
    · rename_i h
      have := lng_tail_lt ts h
      rw [outT_more ts l d e _ (by omega) (by omega)]
/-- All patterns that end a text, by the ends that are a trie's. -/
def sufT (ts l : List (List Int)) : Nat → List Int → List Int
  | 0, _ => []
  | k + 1, u => if u = [] then [] else endsF 0 l u ++ sufT ts l k (lngT ts u.tail)
section
variable {x : List S106} {ts l : List (List Int)}
theorem ends_at {k : Nat} (h : Tr x ts (fun s => endsF 0 l s) k) {m : Nat} {u : List Int} (hu : ts[m]? = some u) : (nodeOf x m).f4 = endsF 0 l u := by
  have hm := h.sp.lt hu
  rw [nodeOf_nat hm]
  exact h.en.1 m _ u (List.getElem?_eq_getElem hm) hu
theorem ol_out {k : Nat} (h : Tr x ts (fun s => endsF 0 l s) k) {s : St} (hF : LFin x ts s) : ∀ (d m : Nat) (u : List Int), ts[m]? = some u → u.length < d → atI s.ol m = outT ts l d u
  | 0, _, _, _, hd => absurd hd (by omega)
  | d + 1, m, u, hu, hd => by
    have h1 := hF.ol m u hu
    unfold OlAt at h1
    rw [h1, outT, ends_at h hu]
    split
    · rfl
    · rename_i hne
      have := lng_tail_lt ts hne
      split
      · rw [idx_of h.sp.nd hu]
      · exact ol_out h hF d _ _ (at_idx (lngT_mem h.sp.nil _)) (by omega)
/-- The program's Out is that node. -/
theorem outOf_eq {k : Nat} (h : Tr x ts (fun s => endsF 0 l s) k) {s : St} (hF : LFin x ts s) {m : Nat} {u : List Int} (hu : ts[m]? = some u) : outOf s.fl s.ol m = outT ts l (u.length + 1) u := by
  have hm := h.sp.lt hu
  unfold outOf
  rw [if_pos (isNode_iff.2 ⟨by omega, by rw [hF.fll]; omega⟩)]
  exact ol_out h hF _ m u hu (by omega)
theorem failOf_eq (h : Sp x ts) {s : St} (hF : LFin x ts s) {m : Nat} {u : List Int} (hu : ts[m]? = some u) : failOf s.fl m = ((ts.idxOf (lngT ts u.tail) : Nat) : Int) := by
  have hm := h.lt hu
  unfold failOf
  rw [if_pos (isNode_iff.2 ⟨by omega, by rw [hF.fll]; omega⟩)]
  exact hF.fl m u hu
/-- The way along the outputs gathers what the way along all ends gathers. -/
theorem pat_l {k : Nat} (h : Tr x ts (fun s => endsF 0 l s) k) {s : St} (hF : LFin x ts s) : ∀ (d : Nat) (u : List Int) (acc : List Int) (K : Nat), u ∈ ts → u.length < d → d ≤ K → patF x s.fl s.ol K (outT ts l d u) acc = some (acc ++ sufT ts l d u)
  | 0, _, _, _, _, hd, _ => absurd hd (by omega)
  | d + 1, u, acc, 0, _, _, hK => absurd hK (by omega)
  | d + 1, u, acc, K + 1, hu, hd, hK => by
    rw [outT, sufT]
    by_cases hne : u = []
    · subst hne
      rw [if_pos rfl, if_pos rfl, patF, if_neg (by omega)]; simp
    · rw [if_neg hne, if_neg hne]
      have hlt := lng_tail_lt ts hne
      have hv := lngT_mem h.sp.nil u.tail
      have hul : 0 < d := by have := List.length_pos_iff.2 hne; omega
      by_cases hE : (endsF 0 l u).length > 0
      · rw [if_pos hE]
        have hui := at_idx hu
        have hpos : ts.idxOf u ≠ 0 := fun e => by
          rw [e, h.sp.root] at hui
          exact hne (Option.some.inj hui).symm
        rw [patF, if_pos (by omega), failOf_eq h.sp hF hui, outOf_eq h hF (at_idx hv), ends_at h hui]
        rw [outT_more ts l _ d _ (by omega) (by omega)]
        rw [pat_l h hF d _ _ K hv (by omega) (by omega), List.append_assoc]
      · rw [if_neg hE]
        have e0 : endsF 0 l u = [] := List.length_eq_zero_iff.1 (by omega)
        rw [e0, List.nil_append]
        exact pat_l h hF d _ _ (K + 1) hv (by omega) (by omega)
end
theorem mem_endsF (l : List (List Int)) (s : List Int) : ∀ (k : Nat) (q : Int), q ∈ endsF k l s ↔ ∃ i : Nat, q = ((k + i : Nat) : Int) ∧ l[i]? = some s := by
  induction l with
  | nil => intro k q; simp [endsF]
  | cons p r ih =>
    intro k q
    rw [endsF, List.mem_append, ih]
    constructor
    · rintro (h | ⟨i, rfl, hi⟩)
      · split at h
        · rename_i e
          rw [List.mem_singleton] at h
          exact ⟨0, by simpa using h, by simp [e]⟩
        · simp at h
      · exact ⟨i + 1, by omega, by simpa using hi⟩
    · rintro ⟨i, rfl, hi⟩
      cases i with
      | zero =>
        simp at hi
        left
        rw [if_pos hi.symm]; simp
      | succ i => exact .inr ⟨i, by omega, by simpa using hi⟩
theorem endsF_rise (l : List (List Int)) (s : List Int) : ∀ k : Nat, (endsF k l s).Pairwise (· < ·) := by
  induction l with
  | nil => intro k; exact List.Pairwise.nil
  | cons p r ih =>
    intro k
    rw [endsF, List.pairwise_append]
    refine ⟨by split <;> simp, ih _, ?_⟩
    intro a ha b hb
    obtain ⟨i, rfl, -⟩ := (mem_endsF r s (k + 1) b).1 hb
    split at ha
    · rw [List.mem_singleton] at ha; subst ha; omega
    · simp at ha
theorem lngT_suf (ts : List (List Int)) : ∀ s, lngT ts s <:+ s
  | [] => List.suffix_refl _
  | a :: r => by
    rw [lngT]; split
    · exact List.suffix_refl _
    · exact (lngT_suf ts r).trans (List.suffix_cons a r)
/-- A shorter end that is a trie's is one of the longest's. -/
theorem suf_lng (ts : List (List Int)) {v : List Int} (hv : v ∈ ts) : ∀ s, v <:+ s → v <:+ lngT ts s
  | [], h => h
  | a :: r, h => by
    rw [lngT]; split
    · exact h
    · rename_i hn
      rcases List.suffix_cons_iff.1 h with rfl | h
      · exact absurd hv hn
      · exact suf_lng ts hv r h
theorem mem_sufT {ts l : List (List Int)} (hp : ∀ p ∈ l, p ∈ ts) (h0 : [] ∈ ts) (q : Int) : ∀ (d : Nat) (u : List Int), u ∈ ts → u.length < d → (q ∈ sufT ts l d u ↔ ∃ (i : Nat) (p : List Int), q = i ∧ l[i]? = some p ∧ p ≠ [] ∧ p <:+ u)
  | 0, _, _, hd => absurd hd (by omega)
  | d + 1, u, hu, hd => by
    rw [sufT]
    by_cases hne : u = []
    · subst hne
      rw [if_pos rfl]
      constructor
      · intro h; simp at h
      · rintro ⟨i, p, _, _, h1, h2⟩
        exact absurd (List.suffix_nil.1 h2) h1
    · rw [if_neg hne, List.mem_append, mem_endsF, mem_sufT hp h0 q d _ (lngT_mem h0 _) (by have := lng_tail_lt ts hne; omega)]
      constructor
      · rintro (⟨i, rfl, hi⟩ | ⟨i, p, rfl, hi, h1, h2⟩)
        · exact ⟨i, u, by simp, hi, hne, List.suffix_refl _⟩
        · refine ⟨i, p, rfl, hi, h1, (h2.trans (lngT_suf ts u.tail)).trans (List.tail_suffix u)⟩
      · rintro ⟨i, p, rfl, hi, h1, h2⟩
        by_cases hpu : p = u
        · subst hpu; exact .inl ⟨i, by simp, hi⟩
        · right
          refine ⟨i, p, rfl, hi, h1, suf_lng ts (hp p (List.mem_of_getElem? hi)) _ ?_⟩
          cases u with
          | nil => exact absurd rfl hne
          | cons a r =>
            rcases List.suffix_cons_iff.1 h2 with h3 | h3
            · exact absurd h3 hpu
            · exact h3
theorem nodup_sufT {ts l : List (List Int)} (hp : ∀ p ∈ l, p ∈ ts) (h0 : [] ∈ ts) : ∀ (d : Nat) (u : List Int), u ∈ ts → u.length < d → (sufT ts l d u).Nodup
  | 0, _, _, hd => absurd hd (by omega)
  | d + 1, u, hu, hd => by
    rw [sufT]
    by_cases hne : u = []
    · rw [if_pos hne]; exact List.nodup_nil
    · have hlt := lng_tail_lt ts hne
      rw [if_neg hne, List.nodup_append]
      refine ⟨(endsF_rise l u 0).imp (fun h => by omega), nodup_sufT hp h0 d _ (lngT_mem h0 _) (by omega), ?_⟩
      rintro a ha b hb rfl
      obtain ⟨i, hi1, hi2⟩ := (mem_endsF l u 0 a).1 ha
      obtain ⟨j, p, hj1, hj2, -, hj3⟩ := (mem_sufT hp h0 a d _ (lngT_mem h0 _) (by omega)).1 hb
      have : i = j := by omega
      subst this
      rw [hi2] at hj2
      obtain rfl := Option.some.inj hj2
      have := hj3.length_le
      omega
/-- Two rising lists of the same numbers. -/
theorem rise_ext : ∀ (a b : List Int), a.Pairwise (· < ·) → b.Pairwise (· < ·) → (∀ q, q ∈ a ↔ q ∈ b) → a = b
  | [], [], _, _, _ => rfl
  | [], y :: b, _, _, h => absurd ((h y).2 (by simp)) (by simp)
  | y :: a, [], _, _, h => absurd ((h y).1 (by simp)) (by simp)
  | x :: a, y :: b, ha, hb, h => by
    obtain ⟨h1, h2⟩ := List.pairwise_cons.1 ha
    obtain ⟨h3, h4⟩ := List.pairwise_cons.1 hb
    have e : x = y := by
      rcases List.mem_cons.1 ((h x).1 (by simp)) with e | e
      · exact e
      · rcases List.mem_cons.1 ((h y).2 (by simp)) with e2 | e2
        · exact e2.symm
        · have := h1 y e2; have := h3 x e; omega
    subst e
    rw [rise_ext a b h2 h4 (fun q => by
      have := h q
      simp only [List.mem_cons] at this
      constructor
      · intro hq
        rcases this.1 (.inr hq) with rfl | h5
        · have := h1 q hq; omega
        · exact h5
      · intro hq
        rcases this.2 (.inr hq) with rfl | h5
        · have := h3 q hq; omega
        · exact h5)]
theorem inOrder_perm (r : List Int) : (inOrder r).Perm r := List.mergeSort_perm _ _
theorem inOrder_le (r : List Int) : (inOrder r).Pairwise (· ≤ ·) := by
  have := List.pairwise_mergeSort (le := fun x y : Int => decide (x ≤ y)) (fun a b c h1 h2 => by simp at *; omega) (fun a b => by simp; omega) r
  exact this.imp (fun h => by simpa using h)
theorem inOrder_lt {r : List Int} (h : r.Nodup) : (inOrder r).Pairwise (· < ·) := by
  have h1 := inOrder_le r
  have h2 : (inOrder r).Nodup := (inOrder_perm r).nodup_iff.2 h
  exact (h1.and h2).imp (fun h => by have := h.1; have := h.2; omega)
/-- The patterns that end a text, in their order. -/
def patT (k : Nat) : List (List Int) → List Int → List Int
  | [], _ => []
  | p :: r, s => (if p <:+ s then [(k : Int)] else []) ++ patT (k + 1) r s
theorem mem_patT (s : List Int) : ∀ (l : List (List Int)) (k : Nat) (q : Int), q ∈ patT k l s ↔ ∃ (i : Nat) (p : List Int), q = ((k + i : Nat) : Int) ∧ l[i]? = some p ∧ p <:+ s
  | [], k, q => by simp [patT]
  | p :: r, k, q => by
    rw [patT, List.mem_append, mem_patT s r]
    constructor
    · rintro (h | ⟨i, p', rfl, hi, h2⟩)
      · split at h
        · rename_i e
          rw [List.mem_singleton] at h
          exact ⟨0, p, by simpa using h, by simp, e⟩
        · simp at h
      · exact ⟨i + 1, p', by omega, by simpa using hi, h2⟩
    · rintro ⟨i, p', rfl, hi, h2⟩
      cases i with
      | zero =>
        simp at hi
        subst hi
        left; rw [if_pos h2]; simp
      | succ i => exact .inr ⟨i, p', by omega, by simpa using hi, h2⟩
theorem patT_rise (s : List Int) : ∀ (l : List (List Int)) (k : Nat), (patT k l s).Pairwise (· < ·)
  | [], k => List.Pairwise.nil
  | p :: r, k => by
    rw [patT, List.pairwise_append]
    refine ⟨by split <;> simp, patT_rise s r _, ?_⟩
    intro a ha b hb
    obtain ⟨i, p', rfl, -, -⟩ := (mem_patT s r (k + 1) b).1 hb
    split at ha
    · rw [List.mem_singleton] at ha; subst ha; omega
    · simp at ha
theorem suf_patT {ts l : List (List Int)} (hp : ∀ p ∈ l, p ∈ ts) (hne : ∀ p ∈ l, p ≠ []) (h0 : [] ∈ ts) {u : List Int} (hu : u ∈ ts) (d : Nat) (hd : u.length < d) : inOrder (sufT ts l d u) = patT 0 l u := by
  refine rise_ext _ _ (inOrder_lt (nodup_sufT hp h0 d u hu hd)) (patT_rise u l 0) (fun q => ?_)
  rw [(inOrder_perm _).mem_iff, mem_sufT hp h0 q d u hu hd, mem_patT]
  constructor
  · rintro ⟨i, p, rfl, h1, -, h2⟩; exact ⟨i, p, by simp, h1, h2⟩
  · rintro ⟨i, p, rfl, h1, h2⟩; exact ⟨i, p, by simp, h1, hne p (List.mem_of_getElem? h1), h2⟩
/-- Each pattern is a node's text. -/
theorem tsAdd_mem (pl : List Int) : ∀ (ts : List (List Int)) (s : List Int), (∀ u ∈ ts, u ∈ tsAdd ts s pl) ∧ (s ∈ ts → s ++ pl ∈ tsAdd ts s pl) := by
  induction pl with
  | nil => intro ts s; exact ⟨fun u h => h, fun h => by simpa [tsAdd] using h⟩
  | cons c r ih =>
    intro ts s
    rw [tsAdd]
    split
    · rename_i hm
      obtain ⟨h1, h2⟩ := ih ts (s ++ [c])
      exact ⟨h1, fun _ => by have := h2 hm; simpa using this⟩
    · obtain ⟨h1, h2⟩ := ih (ts ++ [s ++ [c]]) (s ++ [c])
      exact ⟨fun u hu => h1 u (List.mem_append_left _ hu), fun _ => by have := h2 (by simp); simpa using this⟩
theorem tsAll_mem (r : List (List Int)) : ∀ (ts : List (List Int)), [] ∈ ts → (∀ u ∈ ts, u ∈ tsAll ts r) ∧ ∀ p ∈ r, p ∈ tsAll ts r := by
  induction r with
  | nil => intro ts h0; exact ⟨fun u h => h, by simp⟩
  | cons p r ih =>
    intro ts h0
    obtain ⟨h1, h2⟩ := tsAdd_mem p ts []
    obtain ⟨h3, h4⟩ := ih (tsAdd ts [] p) (h1 _ h0)
    rw [tsAll]
    refine ⟨fun u hu => h3 u (h1 u hu), fun q hq => ?_⟩
    rcases List.mem_cons.1 hq with rfl | hq
    · exact h3 _ (by simpa using h2 h0)
    · exact h4 q hq
theorem textsOf_mem (l : List (List Int)) : ∀ p ∈ l, p ∈ textsOf l := (tsAll_mem l [[]] (by simp)).2
end Go.Proofs.Ytgfmplhpoblleaa.FailW
end
section
/- Rows that a call writes down. -/
namespace Go.Proofs.Ytgfmplhpoblleaa.FailW
open Go.RowKit Go.Shelf Go.Lib Go.Proofs Go.Proofs.YtgfmplhpoblleaaW.PrintWords Go.Proofs.YtgfmplhpoblleaaW.PrintLast Go.Proofs.YtgfmplhpoblleaaW.PrintMore Go.Proofs.Ytgfmplhpoblleaa.PRank Go.Proofs.Ytgfmplhpoblleaa.PFB Go.Proofs.Ytgfmplhpoblleaa.RankW Go.Proofs.Ytgfmplhpoblleaa.SortOwn Go.Proofs.Ytgfmplhpoblleaa
set_option linter.unusedVariables false
set_option linter.unusedSimpArgs false
theorem lit_ints {W : World} {b : Nat} (l : List Int) {ty : TypeId} (h : W.heap[b]? = some (.cells (encI l).toArray ty (0, 0))) (hl : l.length ≤ 1000000) : Kd.C (Kd.int .i64) W (some ⟨b, 0, none⟩) l.length l := by
  refine ⟨rfl, by omega, fun _ => ⟨_, rfl, fun j x hj => ⟨[.int .i64 x], rfl, rfl, ?_⟩⟩⟩
  intro i u hi
  cases i with
  | zero =>
    simp at hi
    subst hi
    have h1 : (Kd.int IntKind.i64).sz = 1 := rfl
    rw [h1]
    have e : (Addr.mk b 0 none).add (j * 1 + 0) = ⟨b, j, none⟩ := by unfold Addr.add; split <;> simp_all
    rw [e, blk_cell h]
    simp [encI, encs, hj]
  | succ i => simp at hi
theorem lit_rows {W : World} {b : Nat} (L : List (Nat × List Int)) {ty : TypeId} (h : W.heap[b]? = some (.cells (L.map fun p => Value.slice (some ⟨p.1, 0, none⟩) p.2.length p.2.length).toArray ty (0, 0))) (hl : L.length ≤ 1000000)
    (hh : ∀ p ∈ L, p.2.length ≤ 1000000 ∧ ∃ ty', W.heap[p.1]? = some (.cells (encI p.2).toArray ty' (0, 0))) : Kd.C (Kd.slice 3 (Kd.int .i64)) W (some ⟨b, 0, none⟩) L.length (L.map (·.2)) := by
  refine ⟨by simp, by omega, fun _ => ⟨_, rfl, fun j x hj => ?_⟩⟩
  rw [List.getElem?_map, Option.map_eq_some_iff] at hj
  obtain ⟨p, hp, rfl⟩ := hj
  obtain ⟨h1, ty', h2⟩ := hh p (List.mem_of_getElem? hp)
  refine ⟨[.slice (some ⟨p.1, 0, none⟩) p.2.length p.2.length], rfl, ⟨_, _, rfl, Nat.le_refl _, lit_ints p.2 h2 h1⟩, ?_⟩
  intro i u hi
  cases i with
  | zero =>
    simp at hi
    subst hi
    have h1 : (Kd.slice 3 (Kd.int IntKind.i64)).sz = 1 := rfl
    rw [h1]
    have e : (Addr.mk b 0 none).add (j * 1 + 0) = ⟨b, j, none⟩ := by unfold Addr.add; split <;> simp_all
    rw [e, blk_cell h]
    simp [hp]
  | succ i => simp at hi
end Go.Proofs.Ytgfmplhpoblleaa.FailW
end
section
/- Tries and links of the patterns that the statements let in; the example of the document. -/
namespace Go.Proofs.Ytgfmplhpoblleaa.FailW
open Go.RowKit Go.Shelf Go.Lib Go.Proofs Go.Proofs.YtgfmplhpoblleaaW.PrintWords Go.Proofs.YtgfmplhpoblleaaW.PrintLast Go.Proofs.YtgfmplhpoblleaaW.PrintMore Go.Proofs.Ytgfmplhpoblleaa.PRank Go.Proofs.Ytgfmplhpoblleaa.PFB Go.Proofs.Ytgfmplhpoblleaa.RankW Go.Proofs.Ytgfmplhpoblleaa.SortOwn Go.Proofs.Ytgfmplhpoblleaa
open Go.Proofs.Ytgfmplhpoblleaa.Cmps hiding dedup
set_option linter.unusedVariables false
set_option linter.unusedSimpArgs false

/-- Patterns that the statements let in. -/
structure In (B : Nat) (l : List (List Int)) : Prop where
  len : l.length ≤ B
  all : ∀ u ∈ l, u.length ≤ B
theorem In.total {B : Nat} {l : List (List Int)} (h : In B l) : total l ≤ l.length * B := by
  obtain ⟨h1, h2⟩ := h
  clear h1
  induction l with
  | nil => simp [FailW.total]
  | cons a r ih =>
    have := ih (fun u hu => h2 u (List.mem_cons_of_mem _ hu))
    have h3 := h2 a (by simp)
    simp [FailW.total] at this ⊢
    rw [Nat.add_mul]; omega
theorem In.bnd {l : List (List Int)} (h : In 20 l) : Bnd l ∧ FailW.total l ≤ 400 := by
  have := h.total
  have h1 := h.len
  have h2 : l.length * 20 ≤ 20 * 20 := Nat.mul_le_mul_right _ h1
  exact ⟨⟨by omega, fun u hu => by have := h.all u hu; omega⟩, by omega⟩
theorem In.mono {B C : Nat} {l : List (List Int)} (h : In B l) (hBC : B ≤ C) : In C l := ⟨Nat.le_trans h.len hBC, fun u hu => Nat.le_trans (h.all u hu) hBC⟩
theorem kl_trie {l : List (List Int)} (h : In 20 l) : Sp (trieOf l) (textsOf l) ∧ Good (trieOf l) ∧ (trieOf l).length ≤ 1000 ∧ Bnd (textsOf l) ∧ (textsOf l).length = (trieOf l).length := by
  have ht := trie_tr l
  have hb := h.bnd
  have hB := textsOf_bnd hb.1 (by omega)
  have hlen := ht.sp.len
  have := hB.1
  have := h.len
  exact ⟨ht.sp, ht.good (by omega) (by omega), by omega, hB, hlen⟩

/-- A trie and its links, made of patterns that the statements let in. -/
structure Made (w : World) (l : List (List Int)) (t p : Addr) (s : St) : Prop where
  tr : TrieAt w t (trieOf l)
  lk : LinksAt w p t (trieOf l) s.fl s.ol
  fin : LFin (trieOf l) (textsOf l) s
theorem Made.below {w w' : World} {l : List (List Int)} {t p : Addr} {s : St} (h : Made w l t p s) (hg : Go.RowKit.Below w.heap.size w w') : Made w' l t p s := ⟨h.tr.below hg, h.lk.below hg, h.fin⟩

/-- The program's Go over links that have been made. -/
theorem mgo_calls {w : World} {l : List (List Int)} {t p : Addr} {s : St} (h : Made w l t p s) (hl : In 20 l) (n c : Int) :
    Calls Try.prog 39 #[.pointer (some p), .int .i64 n, .int .i64 c] w fun e w' => e = .returned (.tuple #[.int .i64 (goRef (textsOf l) n c).1, .int .i64 (goRef (textsOf l) n c).2]) ∧ Grows w w' := by
  obtain ⟨hS, hG, hx, hB, hlen⟩ := kl_trie hl
  refine go_calls p t (trieOf l) s.fl s.ol n c ((trieOf l).length + 1) (goRef (textsOf l) n c) w h.lk hG (by omega) (fun hn => ?_) (fun hn => ?_)
  · obtain ⟨h0, h1⟩ := isNode_iff.1 hn
    rw [h.fin.fll] at h1
    obtain ⟨m, rfl⟩ : ∃ m : Nat, n = m := ⟨n.toNat, by omega⟩
    exact go_ref hS h.fin (by omega) c
  · unfold goRef
    rw [if_neg]
    intro hc
    have : isNode s.fl n = true := isNode_iff.2 ⟨hc.1, by rw [h.fin.fll]; omega⟩
    rw [hn] at this; cases this

/-- The document's example: two patterns. -/
def exP : List (List Int) := [[1, 2, 3], [2, 3]]
def exS : St := ⟨[0, 0, 4, 5, 0, 0], [-1, -1, -1, 3, -1, 5], [0, 1, 4, 2, 5, 3]⟩
theorem ex_links : linksF (trieOf exP) = some exS := by kernel_rfl
theorem ex_in : In 20 exP := ⟨by decide, by decide⟩
theorem ex_pat : patF (trieOf exP) exS.fl exS.ol 10 (outOf exS.fl exS.ol 3) [] = some [0, 1] := by kernel_rfl
theorem ex_order : inOrder [0, 1] = [0, 1] := by
  refine rise_ext _ _ (inOrder_lt (by decide)) (by decide) (fun q => (inOrder_perm _).mem_iff)
/-- What the example comes to. -/
structure Ex (l : List (List Int)) (s : St) : Prop where
  hin : In 20 l
  hlk : linksF (trieOf l) = some s
  he : l.any (·.isEmpty) = false
  h5 : failOf s.fl 3 = 5
  hp : patF (trieOf l) s.fl s.ol 10 (outOf s.fl s.ol 3) [] = some [0, 1]
theorem ex : Ex exP exS := ⟨ex_in, ex_links, by decide, by kernel_rfl, ex_pat⟩
theorem Ex.fin {l : List (List Int)} {s : St} (h : Ex l s) : LFin (trieOf l) (textsOf l) s := by
  obtain ⟨s', h1, h2⟩ := links_ok (trie_tr l).sp
  rw [h.hlk] at h1
  obtain rfl := Option.some.inj h1
  exact h2
theorem new_calls_n (A : Option Addr) (n c : Nat) (l : List (List Int)) (w : World) (hn : l.length = n) (hC : Kd.C kRows w A n l) (hlen : l.length ≤ 65536) (htot : FailW.total l ≤ 1000000) (he : l.any (·.isEmpty) = false) :
    Calls Try.prog 36 #[.slice A n c] w fun e w' => ∃ g, e = .returned (.tuple #[.pointer (some ⟨g, 0, none⟩), .int .i64 0]) ∧ TrieAt w' ⟨g, 0, none⟩ (trieOf l) ∧ Go.RowKit.Below w.heap.size w w' := by
  subst hn
  exact new_calls A c l w hC hlen htot he
set_option maxHeartbeats 4000000 in
set_option maxRecDepth 100000 in
theorem awake23_calls (w : World) : Calls Try.prog 33 #[] w fun e w' => e = .returned (.bool true) ∧ Go.RowKit.Below w.heap.size w w' := by
  have HB := Aside0.mk (Go.RowKit.Below.refl w.heap.size w)
  obtain ⟨W1, hW1⟩ : ∃ W1, W1 = ((w.alloc (Obj.cells #[Value.int IntKind.i64 1, Value.int IntKind.i64 2, Value.int IntKind.i64 3] 3)).alloc (Obj.cells #[Value.int IntKind.i64 2, Value.int IntKind.i64 3] 3)).alloc (Obj.cells #[Value.slice (some { block := w.heap.size, off := 0 }) 3 3, Value.slice (some { block := w.heap.size + 1, off := 0 }) 2 2] 23) := ⟨_, rfl⟩
  have hC : Kd.C (Kd.slice 3 (Kd.int .i64)) W1 (some ⟨w.heap.size + 1 + 1, 0, none⟩) 2 exP := by
    refine lit_rows (ty := 23) [(w.heap.size, [1, 2, 3]), (w.heap.size + 1, [2, 3])] ?_ (by simp) ?_
    · rw [hW1]; simp only [heap_al, sz_al]; simp
    · intro p hp
      simp only [List.mem_cons, List.not_mem_nil, or_false] at hp
      rcases hp with rfl | rfl
      · refine ⟨by simp, 3, ?_⟩
        rw [hW1]; simp only [heap_al, sz_al]; simp [nn2, encI, encs]
      · refine ⟨by simp, 3, ?_⟩
        rw [hW1]; simp only [heap_al, sz_al]; simp [nn2, encI, encs]
  have hX := ex
  have hl2 : exP.length = 2 := rfl
  generalize exP = l at hC hX hl2
  generalize exS = s at hX
  have HC := Aside0.mk hC
  have HW := Aside0.mk hW1
  have HX := Aside0.mk hX
  have HL2 := Aside0.mk hl2
  have h5 := hX.h5
  clear hC hX hl2 hW1
  go_enter Try.func33, Try.ntmps33
  go_wp2_with (first
    | (go_at_call 36; rw [← HW.out]; have n_ := Aside0.mk (show Go.RowKit.Below w.heap.size w W1 by rw [HW.out]; repeat (first | (with_reducible first | exact HB.out | apply below_alloc | apply pw_below_drewN | apply below_drew1) | exact HB.out)); clear HB; have HB := n_; go_loud (refine (new_calls_n (some ⟨w.heap.size + 1 + 1, 0, none⟩) 2 2 l W1 HL2.out HC.out (by have := HL2.out; omega) (by have := HX.out.hin.bnd.2; omega) HX.out.he).mono ?_); rintro e w4 ⟨g, rfl, hT, hb⟩; have HT := Aside0.mk hT; have n_ := Aside0.mk (below_step (by repeat (first | (with_reducible first | exact HB.out | apply below_alloc | apply pw_below_drewN | apply below_drew1) | exact HB.out)) hb); clear HB; have HB := n_; clear n_; clear hT hb)
    | (go_at_call 37; refine (fnew_calls _ ⟨g, 0, none⟩ (trieOf l) (textsOf l) s HT.out (kl_trie HX.out.hin).1 (kl_trie HX.out.hin).2.1 (by have := (kl_trie HX.out.hin).2.2.1; omega) HX.out.hlk).mono ?_; rintro e w5 ⟨p, od', rfl, h1, h2, h3, hb⟩; have HM := Aside0.mk (show Made w5 l ⟨g, 0, none⟩ ⟨p, 0, none⟩ s from ⟨HT.out.below hb, h1, HX.out.fin⟩); have n_ := Aside0.mk (below_step (by repeat (first | (with_reducible first | exact HB.out | apply below_alloc | apply pw_below_drewN | apply below_drew1) | exact HB.out)) hb); clear HB; have HB := n_; clear n_; clear HT h1 h2 h3 hb)
    | (go_at_call 43; go_loud (refine (fail_calls' ⟨p, 0, none⟩ ⟨g, 0, none⟩ (trieOf l) s.fl s.ol 3 _ HM.out.lk).mono ?_); rintro e w6 ⟨rfl, hg⟩; rw [h5]; have m_ := Aside0.mk (HM.out.below hg.below); clear HM; have HM := m_; clear m_; have hb := hg.below; have n_ := Aside0.mk (below_step (by repeat (first | (with_reducible first | exact HB.out | apply below_alloc | apply pw_below_drewN | apply below_drew1) | exact HB.out)) hb); clear HB; have HB := n_; clear n_; clear hg hb)
    | (go_at_call 47; go_loud (refine (patterns_calls ⟨p, 0, none⟩ ⟨g, 0, none⟩ (trieOf l) s.fl s.ol 3 10 [0, 1] _ HM.out.lk (kl_trie HX.out.hin).2.1 (HX.out.fin.oll.trans HX.out.fin.fll.symm) (by omega) HX.out.hp).mono ?_); rw [ex_order]; rintro e w7 ⟨v, rfl, hR, hb⟩; obtain ⟨A7, c7, rfl, hl7, hC7⟩ := Kd.R_reads hR; have HC7 := Aside0.mk (And.intro hl7 hC7); have n_ := Aside0.mk (below_step (by repeat (first | (with_reducible first | exact HB.out | apply below_alloc | apply pw_below_drewN | apply below_drew1) | exact HB.out)) hb); clear HB; have HB := n_; clear n_; clear hb hR hl7 hC7)
    | (go_at_call 18; go_loud (refine (paronymref01_Same.calls 6000000 A7 c7 [0, 1] (some ⟨w7.heap.size, 0, none⟩) 2 [0, 1] true _ (Kd.C_alloc HC7.out.2 _) HC7.out.1 (lit_ints [0, 1] (heap_alloc_new _ _) (by simp)) (by simp) (RefS.ref_same [0, 1] [0, 1] (by simp) (by simp) 6000000 (by simp))).mono ?_); rintro e w8 ⟨rfl, ⟨nd, rfl⟩⟩)
    | (go_at_call 37; refine (fnew_nil _).mono ?_; rintro e w9 ⟨rfl, hg⟩; have hb := hg.below; have n_ := Aside0.mk (below_step (by repeat (first | (with_reducible first | exact HB.out | apply below_alloc | apply pw_below_drewN | apply below_drew1) | exact HB.out)) hb); clear HB; have HB := n_; clear n_; clear hg hb))
  go_ret
  exact ⟨by first | rfl | simp, (by repeat (first | (with_reducible first | exact HB.out | apply below_alloc | apply pw_below_drewN | apply below_drew1) | exact HB.out))⟩
end Go.Proofs.Ytgfmplhpoblleaa.FailW
end
section
/- The statement FailFew, walked. -/
namespace Go.Proofs.Ytgfmplhpoblleaa.FailW
open Go.RowKit Go.Shelf Go.Lib Go.Proofs Go.Proofs.YtgfmplhpoblleaaW.PrintWords Go.Proofs.YtgfmplhpoblleaaW.PrintLast Go.Proofs.YtgfmplhpoblleaaW.PrintMore Go.Proofs.Ytgfmplhpoblleaa.PRank Go.Proofs.Ytgfmplhpoblleaa.PFB Go.Proofs.Ytgfmplhpoblleaa.RankW Go.Proofs.Ytgfmplhpoblleaa.SortOwn Go.Proofs.Ytgfmplhpoblleaa
open Go.Proofs.Ytgfmplhpoblleaa.Cmps hiding dedup
set_option linter.unusedVariables false
set_option linter.unusedSimpArgs false

theorem mgo_at {w : World} {l : List (List Int)} {t p : Addr} {s : St} (h : Made w l t p s) (hl : In 20 l) {m : Nat} {u : List Int} (hu : (textsOf l)[m]? = some u) (c : Int) (q tk : Nat) (hq : q = (textsOf l).idxOf (lngT (textsOf l) (u ++ [c]))) (htk : tk = 1 + cnt (textsOf l) c (u.length + 1) u) :
    Calls Try.prog 39 #[.pointer (some p), .int .i64 m, .int .i64 c] w fun e w' => e = .returned (.tuple #[.int .i64 (q : Int), .int .i64 (tk : Int)]) ∧ Grows w w' := by
  have h1 := mgo_calls h hl (m : Int) c
  have hm := (List.getElem?_eq_some_iff.1 hu).1
  have e : goRef (textsOf l) m c = ((q : Int), (tk : Int)) := by
    unfold goRef
    have eg : (textsOf l).getD (m : Int).toNat [] = u := by rw [Int.toNat_natCast, List.getD_eq_getElem?_getD, hu]; rfl
    rw [if_pos (by omega), eg, hq, htk]
    push_cast
    rfl
  rw [e] at h1
  exact h1
theorem mdepth_at {w : World} {l : List (List Int)} {t p : Addr} {s : St} (h : Made w l t p s) (hl : In 20 l) {m : Nat} {u : List Int} (hu : (textsOf l)[m]? = some u) :
    Calls Try.prog 41 #[.pointer (some t), .int .i64 m] w fun e w' => e = .returned (.int .i64 (u.length : Int)) ∧ Grows w w' := by
  have h1 := depth_calls t (trieOf l) (m : Int) w h.tr
  have hS := (kl_trie hl).1
  have hm := hS.lt hu
  rw [nodeOf_nat hm, hS.depth m _ u (List.getElem?_eq_getElem hm) hu] at h1
  exact h1
end Go.Proofs.Ytgfmplhpoblleaa.FailW
end
section
-- printed by the kit's print.py over several roots (printroots.sh): no hand has typed this
namespace Go.Proofs.Ytgfmplhpoblleaa.PFB
open Go.RowKit Go.Proofs.YtgfmplhpoblleaaW.PrintWords Go.Proofs.YtgfmplhpoblleaaW.PrintLast Go.Proofs.YtgfmplhpoblleaaW.PrintMore Go.Proofs.Ytgfmplhpoblleaa.PRank
attribute [local go_sem] max2_int min2_int max_two min_two max_three min_three max_four min_four   -- for this text's walks alone
set_option linter.unusedVariables false
set_option linter.unusedSimpArgs false

/-! ### paronymref23_Patterns: function 48 -/
def paronymref23_Patterns.l0 : Nat → List (List Int) → List Int → List Int → Int → Option (List Int)
  | 0, _, _, _, _ => none
  | k + 1, x0, x1, x5, x6 => if x6 < (x0.length : Int) then (if 0 ≤ x6 then (if ((rd_L1 x0 x6).length : Int) ≤ (x1.length : Int) then (if 0 ≤ (wrap64 ((x1.length : Int) - ((rd_L1 x0 x6).length : Int))) then (if (wrap64 ((x1.length : Int) - ((rd_L1 x0 x6).length : Int))) ≤ (x1.length : Int) then ((paronymref01_Same.f k (rd_L1 x0 x6) (x1.drop ((wrap64 ((x1.length : Int) - ((rd_L1 x0 x6).length : Int))) : Int).toNat)).bind fun t170 => (if t170 = true then (if x5.length < 17592186044416 then (paronymref23_Patterns.l0 k x0 x1 (x5 ++ [x6]) (wrap64 (x6 + 1))) else (none)) else (paronymref23_Patterns.l0 k x0 x1 x5 (wrap64 (x6 + 1))))) else (none)) else (none)) else (paronymref23_Patterns.l0 k x0 x1 x5 (wrap64 (x6 + 1)))) else (none)) else (some x5)
def paronymref23_Patterns.f (k : Nat) (l0 : List (List Int)) (l1 : List Int) : Option (List Int) := paronymref23_Patterns.l0 k l0 l1 ([] : List Int) 0
theorem paronymref23_Patterns.mono_l : ∀ k, (∀ y0 y1 y2 y3, LeO (paronymref23_Patterns.l0 k y0 y1 y2 y3) (paronymref23_Patterns.l0 (k + 1) y0 y1 y2 y3))
  | 0 => fun _ _ _ _ r h => by simp [paronymref23_Patterns.l0] at h
  | k + 1 => by
    have ih0 := paronymref23_Patterns.mono_l k
    · intro y0 y1 y2 y3
      unfold paronymref23_Patterns.l0
      repeat' first
      | (with_reducible exact ih0 _ _ _ _)
      | (with_reducible exact paronymref01_Same.mono _ _ _)
      | (with_reducible exact LeO.refl _)
      | (with_reducible exact LeO.none _)
      | (with_reducible refine LeO.ite ?_ ?_)
      | (with_reducible refine LeO.bind ?_ (fun _ => ?_))
      | exact ih0 _ _ _ _
      | exact paronymref01_Same.mono _ _ _
      | exact LeO.none _
      | refine LeO.ite ?_ ?_
      | refine LeO.bind ?_ (fun _ => ?_)
theorem paronymref23_Patterns.mono : ∀ a0 a1 k, LeO (paronymref23_Patterns.f k a0 a1) (paronymref23_Patterns.f (k + 1) a0 a1) := by
  intro a0 a1 k
  have ih0 := paronymref23_Patterns.mono_l k
  unfold paronymref23_Patterns.f
  repeat' first
      | (with_reducible exact ih0 _ _ _ _)
      | (with_reducible exact paronymref01_Same.mono _ _ _)
      | (with_reducible exact LeO.refl _)
      | (with_reducible exact LeO.none _)
      | (with_reducible refine LeO.ite ?_ ?_)
      | (with_reducible refine LeO.bind ?_ (fun _ => ?_))
      | exact ih0 _ _ _ _
      | exact paronymref01_Same.mono _ _ _
      | exact LeO.none _
      | refine LeO.ite ?_ ?_
      | refine LeO.bind ?_ (fun _ => ?_)
set_option maxHeartbeats 8000000 in
set_option maxRecDepth 100000 in
theorem paronymref23_Patterns.calls (k : Nat) (A0 : Option Addr) (c0 : Nat) (l0 : List (List Int)) (A1 : Option Addr) (c1 : Nat) (l1 : List Int) (r : List Int) (w : World) (hr0 : Kd.C (Kd.slice 3 (Kd.int .i64)) w A0 l0.length l0) (hc0 : l0.length ≤ c0) (hr1 : Kd.C (Kd.int .i64) w A1 l1.length l1) (hc1 : l1.length ≤ c1) (h : paronymref23_Patterns.f k l0 l1 = some r) :
    Calls Try.prog 48 #[.slice A0 l0.length c0, .slice A1 l1.length c1] w fun e w' => ∃ v0_ : Value, e = .returned (v0_) ∧ Kd.R (Kd.int .i64) 3 w' w.heap.size (fun _ => True) v0_ r ∧ Below w.heap.size w w' := by
  have HR0 := Aside0.mk hr0
  have HC0 := Aside0.mk hc0
  clear hr0 hc0
  have HR1 := Aside0.mk hr1
  have HC1 := Aside0.mk hc1
  clear hr1 hc1
  have HB := Aside0.mk (Below.refl w.heap.size w)
  have H : (paronymref23_Patterns.l0 k l0 l1 ([] : List Int) 0) = some r := h
  clear h
  have H' := Aside0.mk H
  clear H
  go_enter Try.func48, Try.ntmps48
  go_wp2
  repeat (go_quiet (fail); try go_wp2)
  go_loopg [5, 6] k (fun kq v5 v6 w' => ∃ (x5_1 : List Int) (x6_1 : Int), v6 = .int .i64 x6_1 ∧ Aside0 (paronymref23_Patterns.l0 kq l0 l1 x5_1 x6_1 = some r) ∧ Aside0 (kq ≤ k) ∧ Aside0 (Kd.R (Kd.int .i64) 3 w' w.heap.size (fun _ => True) v5 x5_1) ∧ Aside0 (Below w.heap.size w w'))
  case atStart => exact ⟨(([] : List Int)), (0), (by first | rfl | (simp; done) | (simp [*]; done)), H', ⟨Nat.le_refl _⟩, ⟨by first | exact Kd.R_nil _ _ _ _ _ | exact Kd.N_nil _ _ _ _ _ | exact Kd.V_nil _ _ _ _ _ | exact Kd.Q_nil _ _ _ _ _ | exact Kd.S_nil _ _ _ _ _⟩, ⟨by repeat (first | (with_reducible first | exact HB.out | apply below_alloc | apply pw_below_drewN | apply below_drew1) | exact HB.out)⟩⟩
  case round =>
    clear H'
    try clear c1
    try clear p2
    obtain ⟨x5_1, x6_1, rfl, HA, HK1, HO_5, HB⟩ := hrel
    cases gk with
    | zero => exact absurd HA.out (by simp [paronymref23_Patterns.l0])
    | succ k1 =>
      have H := HA.out
      clear HA
      simp only [paronymref23_Patterns.l0] at H
      by_cases c3 : x6_1 < (l0.length : Int)
      · rw [if_pos c3] at H
        have c3b0 : decide (x6_1 < (l0.length : Int)) = true := decide_eq_true c3
        clear c3
        by_cases c4 : 0 ≤ x6_1
        · rw [if_pos c4] at H
          have c4b0 : decide (0 ≤ x6_1) = true := decide_eq_true c4
          clear c4
          by_cases c5 : ((rd_L1 l0 x6_1).length : Int) ≤ (l1.length : Int)
          · rw [if_pos c5] at H
            have c5b0 : decide (((rd_L1 l0 x6_1).length : Int) ≤ (l1.length : Int)) = true := decide_eq_true c5
            have c5b1 : decide ((rd_L1 l0 x6_1).length ≤ l1.length) = true := decide_eq_true (Int.ofNat_le.mp c5)
            clear c5
            obtain ⟨ji6, hji6⟩ : ∃ j_ : Int, (wrap64 ((l1.length : Int) - ((rd_L1 l0 x6_1).length : Int))) = j_ := ⟨_, rfl⟩
            replace H : (if 0 ≤ (ji6) then (if (ji6) ≤ (l1.length : Int) then ((paronymref01_Same.f k1 (rd_L1 l0 x6_1) (l1.drop ((ji6) : Int).toNat)).bind fun t170 => (if t170 = true then (if x5_1.length < 17592186044416 then (paronymref23_Patterns.l0 k1 l0 l1 (x5_1 ++ [x6_1]) (wrap64 (x6_1 + 1))) else (none)) else (paronymref23_Patterns.l0 k1 l0 l1 x5_1 (wrap64 (x6_1 + 1))))) else (none)) else (none)) = some r := by first | (rw [hji6] at H; exact H) | (simp only [hji6] at H ⊢; exact H)
            have hji6w : (IntKind.i64.wrap ((l1.length : Int) - ((rd_L1 l0 x6_1).length : Int))) = ji6 := (i64_w _).trans hji6
            by_cases c7 : 0 ≤ (ji6)
            · rw [if_pos c7] at H
              have c7b0 := eq_true c7
              have c7b1 : decide (0 ≤ (ji6)) = true := decide_eq_true c7
              clear c7
              by_cases c8 : (ji6) ≤ (l1.length : Int)
              · rw [if_pos c8] at H
                have c8b0 := eq_true c8
                have c8b1 : decide ((ji6) ≤ (l1.length : Int)) = true := decide_eq_true c8
                clear c8
                replace H := Option.bind_eq_some_iff.mp H
                obtain ⟨t170, A90, H⟩ := H
                replace H : (if t170 = true then (if x5_1.length < 17592186044416 then (paronymref23_Patterns.l0 k1 l0 l1 (x5_1 ++ [x6_1]) (wrap64 (x6_1 + 1))) else (none)) else (paronymref23_Patterns.l0 k1 l0 l1 x5_1 (wrap64 (x6_1 + 1)))) = some r := H
                have A9 := Aside0.mk A90
                clear A90
                by_cases c10 : t170 = true
                · subst c10
                  have H1 : (if x5_1.length < 17592186044416 then (paronymref23_Patterns.l0 k1 l0 l1 (x5_1 ++ [x6_1]) (wrap64 (x6_1 + 1))) else (none)) = some r := by rw [if_pos rfl] at H; exact H
                  clear H
                  have H := H1
                  clear H1
                  by_cases c11 : x5_1.length < 17592186044416
                  · rw [if_pos c11] at H
                    have LMc11 := Aside0.mk c11
                    clear c11
                    obtain ⟨y171, hy171⟩ : ∃ y_ : List Int, y_ = (x5_1 ++ [x6_1]) := ⟨_, rfl⟩
                    replace H : (paronymref23_Patterns.l0 k1 l0 l1 y171 (wrap64 (x6_1 + 1))) = some r := by first | (rw [hy171]; with_reducible exact H) | (have H2_ := (Option.bind_some _ _).symm.trans H; rw [hy171]; with_reducible exact H2_) | (have H2_ := (Option.bind_some _ _).symm.trans H; with_reducible exact H2_) | with_reducible exact H | (rw [hy171]; exact H) | exact H
                    have Ny171 := Aside0.mk hy171
                    clear hy171
                    have H' := Aside0.mk H
                    clear H
                    have p167 : 0 ≤ (x6_1 : Int) := of_decide_eq_true (by first | (with_reducible assumption) | assumption)
                    have q167 : x6_1 < (l0.length : Int) := of_decide_eq_true (by first | (with_reducible assumption) | assumption)
                    obtain ⟨ad167, A167_0, c167_0, e167, hx167_0, hl167_0, hi167_0⟩ := at_L1 HR0.out x6_1 p167 q167
                    cases e167
                    replace hx167_0 := (HB.out.cell (World.block_lt_of_cell? w _ hx167_0)).trans hx167_0
                    have HR167_0 := Aside0.mk hi167_0
                    have HC167_0 := Aside0.mk hl167_0
                    clear hi167_0 hl167_0
                    replace p167 := eq_true p167
                    replace q167 := eq_true q167
                    have p168 : 0 ≤ (x6_1 : Int) := of_decide_eq_true (by first | (with_reducible assumption) | assumption)
                    have q168 : x6_1 < (l0.length : Int) := of_decide_eq_true (by first | (with_reducible assumption) | assumption)
                    obtain ⟨ad168, A168_0, c168_0, e168, hx168_0, hl168_0, hi168_0⟩ := at_L1 HR0.out x6_1 p168 q168
                    obtain rfl : ad167 = ad168 := (by injection e168)
                    replace hx168_0 := (HB.out.cell (World.block_lt_of_cell? w _ hx168_0)).trans hx168_0
                    have HR168_0 := Aside0.mk hi168_0
                    have HC168_0 := Aside0.mk hl168_0
                    clear hi168_0 hl168_0
                    replace p168 := eq_true p168
                    replace q168 := eq_true q168
                    have ea_ := Option.some.inj (hx167_0.symm.trans hx168_0)
                    injection ea_ with ea_ en_ ec_
                    subst ea_
                    subst ec_
                    clear en_
                    obtain ⟨i012, hi012, _, hsz12, _⟩ := info_parts info3
                    obtain ⟨A12, hcut12, hA12, hC12⟩ := print_drop_of (P := Try.prog) (Value.int .i64) 0 23 3 .i64 Try.underlying23 hi012 hsz12 A1 c1 l1 (ji6) (of_decide_eq_true (by first | (with_reducible assumption) | assumption)) (of_decide_eq_true (by first | (with_reducible assumption) | assumption)) HC1.out
                    have HR169 := Aside0.mk (Kd.C_of_reads (h1 := fun _ => rfl) (hA12 _ (Kd.reads_of_C HR1.out)))
                    have HC169 := Aside0.mk hC12
                    clear hA12 hC12 hi012 hsz12
                    go_wp2_with (first | (go_at_call 18; (try rw [← List.length_drop (l := l1) (i := ji6.toNat)]); (with_reducible refine (paronymref01_Same.calls k1 _ _ (rd_L1 l0 x6_1) _ _ (l1.drop ((ji6) : Int).toNat) true _ ?side1 ?side2 ?side3 ?side4 A9.out).mono ?_); (case side1 => repeat (first | exact (Kd.C_below HR168_0.out HB.out) | (with_reducible refine Kd.C_alloc ?_ _) | (with_reducible refine Kd.C_drewN ?_ _) | (with_reducible refine Kd.C_drew ?_))); (case side2 => exact HC168_0.out); (case side3 => repeat (first | exact (Kd.C_below HR169.out HB.out) | (with_reducible refine Kd.C_alloc ?_ _) | (with_reducible refine Kd.C_drewN ?_ _) | (with_reducible refine Kd.C_drew ?_))); (case side4 => exact HC169.out); rintro e w' ⟨rfl, ⟨nd, rfl⟩⟩; (try first | exact ⟨rfl, _, World.drewN_drewN _ _ _⟩ | exact ⟨rfl, _, Eq.trans (World.drewN_drewN _ _ _) (congrArg (World.drewN _) (Nat.add_assoc _ _ _))⟩)) | ((with_reducible refine gate_builtin (b := .append) (xs := #[.tmp 36, .tmp 38]) rfl ?_); (try (refine gate_guard (by rfl) ?_; dsimp only)); at_builtin; refine Kd.R_append (Kd.int .i64) (w0 := w) w.heap.size rfl (.tmp 36) (.tmp 38) 23 3 (.int .i64 0) 8 rfl Try.underlying23 info3 rfl (by decide) (by omega) u5 x5_1 x6_1 [.int .i64 x6_1] (fun _ => True) (fun _ => False) rfl rfl ?aP (fun _ hk => hk.elim) ?aF ?aO ?aB ?aS ?aL ?_; (case aP => exact rfl); (case aB => exact (by repeat (first | (with_reducible first | exact HB.out | apply below_alloc | apply pw_below_drewN | apply below_drew1) | exact HB.out))); (case aF => exact (fun _ _ => trivial)); (case aO => exact (by (with_reducible repeat (first | apply Kd.R_alloc | apply Kd.R_drewN | apply Kd.R_drew)); exact HO_5.out)); (case aS => exact (below_size (by repeat (first | (with_reducible first | exact HB.out | apply below_alloc | apply pw_below_drewN | apply below_drew1) | exact HB.out)))); (case aL => have := LMc11.out; omega); intro v172 w13 ho hb hg hat; rw [← Ny171.out] at ho; have n0_ := Aside0.mk (hb); have n1_ := Aside0.mk (ho); clear HB; clear HO_5; have HB := n0_; have HO173 := n1_; clear n0_ n1_; clear ho hb hg hat))
                    (go_quiet (first | (go_at_call 18; (try rw [← List.length_drop (l := l1) (i := ji6.toNat)]); (with_reducible refine (paronymref01_Same.calls k1 _ _ (rd_L1 l0 x6_1) _ _ (l1.drop ((ji6) : Int).toNat) true _ ?side1 ?side2 ?side3 ?side4 A9.out).mono ?_); (case side1 => repeat (first | exact (Kd.C_below HR168_0.out HB.out) | (with_reducible refine Kd.C_alloc ?_ _) | (with_reducible refine Kd.C_drewN ?_ _) | (with_reducible refine Kd.C_drew ?_))); (case side2 => exact HC168_0.out); (case side3 => repeat (first | exact (Kd.C_below HR169.out HB.out) | (with_reducible refine Kd.C_alloc ?_ _) | (with_reducible refine Kd.C_drewN ?_ _) | (with_reducible refine Kd.C_drew ?_))); (case side4 => exact HC169.out); rintro e w' ⟨rfl, ⟨nd, rfl⟩⟩; (try first | exact ⟨rfl, _, World.drewN_drewN _ _ _⟩ | exact ⟨rfl, _, Eq.trans (World.drewN_drewN _ _ _) (congrArg (World.drewN _) (Nat.add_assoc _ _ _))⟩)) | ((with_reducible refine gate_builtin (b := .append) (xs := #[.tmp 36, .tmp 38]) rfl ?_); (try (refine gate_guard (by rfl) ?_; dsimp only)); at_builtin; refine Kd.R_append (Kd.int .i64) (w0 := w) w.heap.size rfl (.tmp 36) (.tmp 38) 23 3 (.int .i64 0) 8 rfl Try.underlying23 info3 rfl (by decide) (by omega) u5 x5_1 x6_1 [.int .i64 x6_1] (fun _ => True) (fun _ => False) rfl rfl ?aP (fun _ hk => hk.elim) ?aF ?aO ?aB ?aS ?aL ?_; (case aP => exact rfl); (case aB => exact (by repeat (first | (with_reducible first | exact HB.out | apply below_alloc | apply pw_below_drewN | apply below_drew1) | exact HB.out))); (case aF => exact (fun _ _ => trivial)); (case aO => exact (by (with_reducible repeat (first | apply Kd.R_alloc | apply Kd.R_drewN | apply Kd.R_drew)); exact HO_5.out)); (case aS => exact (below_size (by repeat (first | (with_reducible first | exact HB.out | apply below_alloc | apply pw_below_drewN | apply below_drew1) | exact HB.out)))); (case aL => have := LMc11.out; omega); intro v172 w13 ho hb hg hat; rw [← Ny171.out] at ho; have n0_ := Aside0.mk (hb); have n1_ := Aside0.mk (ho); clear HB; clear HO_5; have HB := n0_; have HO173 := n1_; clear n0_ n1_; clear ho hb hg hat)); try go_wp2_with (first | (go_at_call 18; (try rw [← List.length_drop (l := l1) (i := ji6.toNat)]); (with_reducible refine (paronymref01_Same.calls k1 _ _ (rd_L1 l0 x6_1) _ _ (l1.drop ((ji6) : Int).toNat) true _ ?side1 ?side2 ?side3 ?side4 A9.out).mono ?_); (case side1 => repeat (first | exact (Kd.C_below HR168_0.out HB.out) | (with_reducible refine Kd.C_alloc ?_ _) | (with_reducible refine Kd.C_drewN ?_ _) | (with_reducible refine Kd.C_drew ?_))); (case side2 => exact HC168_0.out); (case side3 => repeat (first | exact (Kd.C_below HR169.out HB.out) | (with_reducible refine Kd.C_alloc ?_ _) | (with_reducible refine Kd.C_drewN ?_ _) | (with_reducible refine Kd.C_drew ?_))); (case side4 => exact HC169.out); rintro e w' ⟨rfl, ⟨nd, rfl⟩⟩; (try first | exact ⟨rfl, _, World.drewN_drewN _ _ _⟩ | exact ⟨rfl, _, Eq.trans (World.drewN_drewN _ _ _) (congrArg (World.drewN _) (Nat.add_assoc _ _ _))⟩)) | ((with_reducible refine gate_builtin (b := .append) (xs := #[.tmp 36, .tmp 38]) rfl ?_); (try (refine gate_guard (by rfl) ?_; dsimp only)); at_builtin; refine Kd.R_append (Kd.int .i64) (w0 := w) w.heap.size rfl (.tmp 36) (.tmp 38) 23 3 (.int .i64 0) 8 rfl Try.underlying23 info3 rfl (by decide) (by omega) u5 x5_1 x6_1 [.int .i64 x6_1] (fun _ => True) (fun _ => False) rfl rfl ?aP (fun _ hk => hk.elim) ?aF ?aO ?aB ?aS ?aL ?_; (case aP => exact rfl); (case aB => exact (by repeat (first | (with_reducible first | exact HB.out | apply below_alloc | apply pw_below_drewN | apply below_drew1) | exact HB.out))); (case aF => exact (fun _ _ => trivial)); (case aO => exact (by (with_reducible repeat (first | apply Kd.R_alloc | apply Kd.R_drewN | apply Kd.R_drew)); exact HO_5.out)); (case aS => exact (below_size (by repeat (first | (with_reducible first | exact HB.out | apply below_alloc | apply pw_below_drewN | apply below_drew1) | exact HB.out)))); (case aL => have := LMc11.out; omega); intro v172 w13 ho hb hg hat; rw [← Ny171.out] at ho; have n0_ := Aside0.mk (hb); have n1_ := Aside0.mk (ho); clear HB; clear HO_5; have HB := n0_; have HO173 := n1_; clear n0_ n1_; clear ho hb hg hat)))
                    go_roundg k1
                    case measure => have := HK1.out; omega
                    case rel => exact ⟨(y171), (wrap64 (x6_1 + 1)), (by first | rfl | (simp; done) | (simp [*]; done)), H', ⟨by have := HK1.out; omega⟩, ⟨by (with_reducible repeat (first | apply Kd.R_alloc | apply Kd.R_drewN | apply Kd.R_drew)); exact HO173.out⟩, ⟨by repeat (first | (with_reducible first | exact HB.out | apply below_alloc | apply pw_below_drewN | apply below_drew1) | exact HB.out)⟩⟩
                  · rw [if_neg c11] at H
                    exact absurd H (by simp)
                · replace c10 := Bool.eq_false_iff.mpr c10
                  subst c10
                  have H1 : (paronymref23_Patterns.l0 k1 l0 l1 x5_1 (wrap64 (x6_1 + 1))) = some r := by rw [if_neg (show ¬ (false = true) by decide)] at H; exact H
                  clear H
                  have H := H1
                  clear H1
                  have H' := Aside0.mk H
                  clear H
                  have p167 : 0 ≤ (x6_1 : Int) := of_decide_eq_true (by first | (with_reducible assumption) | assumption)
                  have q167 : x6_1 < (l0.length : Int) := of_decide_eq_true (by first | (with_reducible assumption) | assumption)
                  obtain ⟨ad167, A167_0, c167_0, e167, hx167_0, hl167_0, hi167_0⟩ := at_L1 HR0.out x6_1 p167 q167
                  cases e167
                  replace hx167_0 := (HB.out.cell (World.block_lt_of_cell? w _ hx167_0)).trans hx167_0
                  have HR167_0 := Aside0.mk hi167_0
                  have HC167_0 := Aside0.mk hl167_0
                  clear hi167_0 hl167_0
                  replace p167 := eq_true p167
                  replace q167 := eq_true q167
                  have p168 : 0 ≤ (x6_1 : Int) := of_decide_eq_true (by first | (with_reducible assumption) | assumption)
                  have q168 : x6_1 < (l0.length : Int) := of_decide_eq_true (by first | (with_reducible assumption) | assumption)
                  obtain ⟨ad168, A168_0, c168_0, e168, hx168_0, hl168_0, hi168_0⟩ := at_L1 HR0.out x6_1 p168 q168
                  obtain rfl : ad167 = ad168 := (by injection e168)
                  replace hx168_0 := (HB.out.cell (World.block_lt_of_cell? w _ hx168_0)).trans hx168_0
                  have HR168_0 := Aside0.mk hi168_0
                  have HC168_0 := Aside0.mk hl168_0
                  clear hi168_0 hl168_0
                  replace p168 := eq_true p168
                  replace q168 := eq_true q168
                  have ea_ := Option.some.inj (hx167_0.symm.trans hx168_0)
                  injection ea_ with ea_ en_ ec_
                  subst ea_
                  subst ec_
                  clear en_
                  obtain ⟨i014, hi014, _, hsz14, _⟩ := info_parts info3
                  obtain ⟨A14, hcut14, hA14, hC14⟩ := print_drop_of (P := Try.prog) (Value.int .i64) 0 23 3 .i64 Try.underlying23 hi014 hsz14 A1 c1 l1 (ji6) (of_decide_eq_true (by first | (with_reducible assumption) | assumption)) (of_decide_eq_true (by first | (with_reducible assumption) | assumption)) HC1.out
                  have HR169 := Aside0.mk (Kd.C_of_reads (h1 := fun _ => rfl) (hA14 _ (Kd.reads_of_C HR1.out)))
                  have HC169 := Aside0.mk hC14
                  clear hA14 hC14 hi014 hsz14
                  go_wp2_with (first | (go_at_call 18; (try rw [← List.length_drop (l := l1) (i := ji6.toNat)]); (with_reducible refine (paronymref01_Same.calls k1 _ _ (rd_L1 l0 x6_1) _ _ (l1.drop ((ji6) : Int).toNat) false _ ?side1 ?side2 ?side3 ?side4 A9.out).mono ?_); (case side1 => repeat (first | exact (Kd.C_below HR168_0.out HB.out) | (with_reducible refine Kd.C_alloc ?_ _) | (with_reducible refine Kd.C_drewN ?_ _) | (with_reducible refine Kd.C_drew ?_))); (case side2 => exact HC168_0.out); (case side3 => repeat (first | exact (Kd.C_below HR169.out HB.out) | (with_reducible refine Kd.C_alloc ?_ _) | (with_reducible refine Kd.C_drewN ?_ _) | (with_reducible refine Kd.C_drew ?_))); (case side4 => exact HC169.out); rintro e w' ⟨rfl, ⟨nd, rfl⟩⟩; (try first | exact ⟨rfl, _, World.drewN_drewN _ _ _⟩ | exact ⟨rfl, _, Eq.trans (World.drewN_drewN _ _ _) (congrArg (World.drewN _) (Nat.add_assoc _ _ _))⟩)))
                  (go_quiet (first | (go_at_call 18; (try rw [← List.length_drop (l := l1) (i := ji6.toNat)]); (with_reducible refine (paronymref01_Same.calls k1 _ _ (rd_L1 l0 x6_1) _ _ (l1.drop ((ji6) : Int).toNat) false _ ?side1 ?side2 ?side3 ?side4 A9.out).mono ?_); (case side1 => repeat (first | exact (Kd.C_below HR168_0.out HB.out) | (with_reducible refine Kd.C_alloc ?_ _) | (with_reducible refine Kd.C_drewN ?_ _) | (with_reducible refine Kd.C_drew ?_))); (case side2 => exact HC168_0.out); (case side3 => repeat (first | exact (Kd.C_below HR169.out HB.out) | (with_reducible refine Kd.C_alloc ?_ _) | (with_reducible refine Kd.C_drewN ?_ _) | (with_reducible refine Kd.C_drew ?_))); (case side4 => exact HC169.out); rintro e w' ⟨rfl, ⟨nd, rfl⟩⟩; (try first | exact ⟨rfl, _, World.drewN_drewN _ _ _⟩ | exact ⟨rfl, _, Eq.trans (World.drewN_drewN _ _ _) (congrArg (World.drewN _) (Nat.add_assoc _ _ _))⟩))); try go_wp2_with (first | (go_at_call 18; (try rw [← List.length_drop (l := l1) (i := ji6.toNat)]); (with_reducible refine (paronymref01_Same.calls k1 _ _ (rd_L1 l0 x6_1) _ _ (l1.drop ((ji6) : Int).toNat) false _ ?side1 ?side2 ?side3 ?side4 A9.out).mono ?_); (case side1 => repeat (first | exact (Kd.C_below HR168_0.out HB.out) | (with_reducible refine Kd.C_alloc ?_ _) | (with_reducible refine Kd.C_drewN ?_ _) | (with_reducible refine Kd.C_drew ?_))); (case side2 => exact HC168_0.out); (case side3 => repeat (first | exact (Kd.C_below HR169.out HB.out) | (with_reducible refine Kd.C_alloc ?_ _) | (with_reducible refine Kd.C_drewN ?_ _) | (with_reducible refine Kd.C_drew ?_))); (case side4 => exact HC169.out); rintro e w' ⟨rfl, ⟨nd, rfl⟩⟩; (try first | exact ⟨rfl, _, World.drewN_drewN _ _ _⟩ | exact ⟨rfl, _, Eq.trans (World.drewN_drewN _ _ _) (congrArg (World.drewN _) (Nat.add_assoc _ _ _))⟩))))
                  go_roundg k1
                  case measure => have := HK1.out; omega
                  case rel => exact ⟨(x5_1), (wrap64 (x6_1 + 1)), (by first | rfl | (simp; done) | (simp [*]; done)), H', ⟨by have := HK1.out; omega⟩, ⟨by (with_reducible repeat (first | apply Kd.R_alloc | apply Kd.R_drewN | apply Kd.R_drew)); exact HO_5.out⟩, ⟨by repeat (first | (with_reducible first | exact HB.out | apply below_alloc | apply pw_below_drewN | apply below_drew1) | exact HB.out)⟩⟩
              · rw [if_neg c8] at H
                exact absurd H (by simp)
            · rw [if_neg c7] at H
              exact absurd H (by simp)
          · rw [if_neg c5] at H
            have c5b0 : decide (((rd_L1 l0 x6_1).length : Int) ≤ (l1.length : Int)) = false := decide_eq_false c5
            have c5b1 : decide ((rd_L1 l0 x6_1).length ≤ l1.length) = false := decide_eq_false (fun h => c5 (Int.ofNat_le.mpr h))
            clear c5
            have H' := Aside0.mk H
            clear H
            have p167 : 0 ≤ (x6_1 : Int) := of_decide_eq_true (by first | (with_reducible assumption) | assumption)
            have q167 : x6_1 < (l0.length : Int) := of_decide_eq_true (by first | (with_reducible assumption) | assumption)
            obtain ⟨ad167, A167_0, c167_0, e167, hx167_0, hl167_0, hi167_0⟩ := at_L1 HR0.out x6_1 p167 q167
            cases e167
            replace hx167_0 := (HB.out.cell (World.block_lt_of_cell? w _ hx167_0)).trans hx167_0
            have HR167_0 := Aside0.mk hi167_0
            have HC167_0 := Aside0.mk hl167_0
            clear hi167_0 hl167_0
            replace p167 := eq_true p167
            replace q167 := eq_true q167
            go_wp2
            repeat (go_quiet (fail); try go_wp2)
            go_roundg k1
            case measure => have := HK1.out; omega
            case rel => exact ⟨(x5_1), (wrap64 (x6_1 + 1)), (by first | rfl | (simp; done) | (simp [*]; done)), H', ⟨by have := HK1.out; omega⟩, ⟨by (with_reducible repeat (first | apply Kd.R_alloc | apply Kd.R_drewN | apply Kd.R_drew)); exact HO_5.out⟩, ⟨by repeat (first | (with_reducible first | exact HB.out | apply below_alloc | apply pw_below_drewN | apply below_drew1) | exact HB.out)⟩⟩
        · rw [if_neg c4] at H
          exact absurd H (by simp)
      · rw [if_neg c3] at H
        have c3b0 : decide (x6_1 < (l0.length : Int)) = false := decide_eq_false c3
        clear c3
        obtain rfl := Option.some.inj H
        go_wp2
        repeat (go_quiet (fail); try go_wp2)
        go_ret
        exact ⟨_, by first | rfl | (simp [errW_none, errW_some] <;> rfl) | (simp [*, errW_none, errW_some] <;> rfl), by (with_reducible repeat (first | apply Kd.R_alloc | apply Kd.R_drewN | apply Kd.R_drew)); exact HO_5.out, by repeat (first | (with_reducible first | exact HB.out | apply below_alloc | apply pw_below_drewN | apply below_drew1) | exact HB.out)⟩

end Go.Proofs.Ytgfmplhpoblleaa.PFB
end
section
/- The document's outputs, patterns and order. -/
namespace Go.Proofs.Ytgfmplhpoblleaa.FailW
open Go.RowKit Go.Shelf Go.Lib Go.Proofs Go.Proofs.YtgfmplhpoblleaaW.PrintWords Go.Proofs.YtgfmplhpoblleaaW.PrintLast Go.Proofs.YtgfmplhpoblleaaW.PrintMore Go.Proofs.Ytgfmplhpoblleaa.PRank Go.Proofs.Ytgfmplhpoblleaa.PFB Go.Proofs.Ytgfmplhpoblleaa.RankW Go.Proofs.Ytgfmplhpoblleaa.SortOwn Go.Proofs.Ytgfmplhpoblleaa
open Go.Proofs.Ytgfmplhpoblleaa.Cmps hiding dedup
set_option linter.unusedVariables false
set_option linter.unusedSimpArgs false

/-- A node's failure, by the document. -/
def failRef (ts : List (List Int)) (n : Int) : Int := if 0 ≤ n ∧ n < (ts.length : Int) then ((ts.idxOf (lngT ts (ts.getD n.toNat []).tail) : Nat) : Int) else 0
def outRef (ts l : List (List Int)) (n : Int) : Int := if 0 ≤ n ∧ n < (ts.length : Int) then outT ts l ((ts.getD n.toNat []).length + 1) (ts.getD n.toNat []) else -1
theorem getD_at {ts : List (List Int)} {m : Nat} {u : List Int} (hu : ts[m]? = some u) : ts.getD (m : Int).toNat [] = u := by rw [Int.toNat_natCast, List.getD_eq_getElem?_getD, hu]; rfl
section
variable {x : List S106} {ts : List (List Int)}
theorem failRef_at {m : Nat} {u : List Int} (hu : ts[m]? = some u) : failRef ts m = ((ts.idxOf (lngT ts u.tail) : Nat) : Int) := by
  have := (List.getElem?_eq_some_iff.1 hu).1
  unfold failRef
  rw [if_pos (by omega), getD_at hu]
theorem outRef_at {l : List (List Int)} {m : Nat} {u : List Int} (hu : ts[m]? = some u) : outRef ts l m = outT ts l (u.length + 1) u := by
  have := (List.getElem?_eq_some_iff.1 hu).1
  unfold outRef
  rw [if_pos (by omega), getD_at hu]
theorem failOf_any (h : Sp x ts) {s : St} (hF : LFin x ts s) (n : Int) : failOf s.fl n = failRef ts n := by
  by_cases hn : 0 ≤ n ∧ n < (ts.length : Int)
  · obtain ⟨m, rfl⟩ : ∃ m : Nat, n = m := ⟨n.toNat, by omega⟩
    have hm : m < ts.length := by omega
    rw [failRef_at (List.getElem?_eq_getElem hm), failOf_eq h hF (List.getElem?_eq_getElem hm)]
  · unfold failRef failOf
    rw [if_neg hn, if_neg]
    intro hc
    obtain ⟨h1, h2⟩ := isNode_iff.1 hc
    rw [hF.fll, ← h.len] at h2
    exact hn ⟨h1, h2⟩
theorem outOf_any {l : List (List Int)} {k : Nat} (h : Tr x ts (fun s => endsF 0 l s) k) {s : St} (hF : LFin x ts s) (n : Int) : outOf s.fl s.ol n = outRef ts l n := by
  by_cases hn : 0 ≤ n ∧ n < (ts.length : Int)
  · obtain ⟨m, rfl⟩ : ∃ m : Nat, n = m := ⟨n.toNat, by omega⟩
    have hm : m < ts.length := by omega
    rw [outRef_at (List.getElem?_eq_getElem hm), outOf_eq h hF (List.getElem?_eq_getElem hm)]
  · unfold outRef outOf
    rw [if_neg hn, if_neg]
    intro hc
    obtain ⟨h1, h2⟩ := isNode_iff.1 hc
    rw [hF.fll, ← h.sp.len] at h2
    exact hn ⟨h1, h2⟩
end
/-! ### The order -/
end Go.Proofs.Ytgfmplhpoblleaa.FailW
end
section
/- Made links: Fail, Out, Patterns, Depth at a node. -/
namespace Go.Proofs.Ytgfmplhpoblleaa.FailW
open Go.RowKit Go.Shelf Go.Lib Go.Proofs Go.Proofs.YtgfmplhpoblleaaW.PrintWords Go.Proofs.YtgfmplhpoblleaaW.PrintLast Go.Proofs.YtgfmplhpoblleaaW.PrintMore Go.Proofs.Ytgfmplhpoblleaa.PRank Go.Proofs.Ytgfmplhpoblleaa.PFB Go.Proofs.Ytgfmplhpoblleaa.RankW Go.Proofs.Ytgfmplhpoblleaa.SortOwn Go.Proofs.Ytgfmplhpoblleaa
open Go.Proofs.Ytgfmplhpoblleaa.Cmps hiding dedup
set_option linter.unusedVariables false
set_option linter.unusedSimpArgs false

theorem mfail_any {w : World} {l : List (List Int)} {t p : Addr} {s : St} (h : Made w l t p s) (hl : In 20 l) (n v : Int) (hv : v = failRef (textsOf l) n) :
    Calls Try.prog 43 #[.pointer (some p), .int .i64 n] w fun e w' => e = .returned (.int .i64 v) ∧ Grows w w' := by
  have h1 := fail_calls' p t (trieOf l) s.fl s.ol n w h.lk
  rw [failOf_any (kl_trie hl).1 h.fin n, ← hv] at h1
  exact h1
theorem mout_any {w : World} {l : List (List Int)} {t p : Addr} {s : St} (h : Made w l t p s) (hl : In 20 l) (n v : Int) (hv : v = outRef (textsOf l) l n) :
    Calls Try.prog 45 #[.pointer (some p), .int .i64 n] w fun e w' => e = .returned (.int .i64 v) ∧ Grows w w' := by
  have h1 := out_calls' p t (trieOf l) s.fl s.ol n w (h.fin.oll.trans h.fin.fll.symm) h.lk
  rw [outOf_any (trie_tr l) h.fin n, ← hv] at h1
  exact h1
theorem mpat_at {w : World} {l : List (List Int)} {t p : Addr} {s : St} (h : Made w l t p s) (hl : In 20 l) (hne : l.any (·.isEmpty) = false) {m : Nat} {u : List Int} (hu : (textsOf l)[m]? = some u) :
    Calls Try.prog 47 #[.pointer (some p), .int .i64 m] w fun e w' => ∃ v, e = .returned v ∧ Kd.R (Kd.int .i64) 3 w' w.heap.size (fun _ => True) v (patT 0 l u) ∧ Go.RowKit.Below w.heap.size w w' := by
  obtain ⟨hS, hG, hx, hB, hlen⟩ := kl_trie hl
  have hm := List.mem_of_getElem? hu
  have hul := hB.2 u hm
  have h1 := patterns_calls p t (trieOf l) s.fl s.ol (m : Int) (u.length + 1) (sufT (textsOf l) l (u.length + 1) u) w h.lk hG (h.fin.oll.trans h.fin.fll.symm) (by omega) (by
    rw [outOf_eq (trie_tr l) h.fin hu]
    have := pat_l (trie_tr l) h.fin (u.length + 1) u [] (u.length + 1) hm (by omega) (Nat.le_refl _)
    rw [List.nil_append] at this
    exact this)
  rw [suf_patT (textsOf_mem l) (fun p hp => ?_) hS.nil hm _ (by omega)] at h1
  · exact h1
  · rintro rfl
    rw [List.any_eq_false] at hne
    exact hne [] hp rfl
theorem mdepth_n {w : World} {l : List (List Int)} {t p : Addr} {s : St} (h : Made w l t p s) (hl : In 20 l) {m : Nat} {u : List Int} (hu : (textsOf l)[m]? = some u) (d : Nat) (hd : d = u.length) :
    Calls Try.prog 41 #[.pointer (some t), .int .i64 m] w fun e w' => e = .returned (.int .i64 (d : Int)) ∧ Grows w w' := by
  subst hd
  exact mdepth_at h hl hu
/-- Two neighbours of the order. -/
theorem od_two {l : List (List Int)} (hl : In 20 l) {s : St} (hF : LFin (trieOf l) (textsOf l) s) {od : List Int} (hp : od.Perm s.od) (hs : SegS (cmpD (trieOf l)) od 0 od.length) {j : Nat} (hj : j + 1 < od.length) :
    ∃ (a b : Nat) (u v : List Int), od[j]? = some (a : Int) ∧ od[j + 1]? = some (b : Int) ∧ (textsOf l)[a]? = some u ∧ (textsOf l)[b]? = some v ∧ (u.length < v.length ∨ u.length = v.length ∧ a < b) := by
  obtain ⟨hS, hG, hx, hB, hlen⟩ := kl_trie hl
  have hja : j < od.length := by omega
  obtain ⟨a, ea, ha⟩ := hF.mem od[j] (hp.mem_iff.1 (List.getElem_mem _))
  obtain ⟨b, eb, hb⟩ := hF.mem od[j + 1] (hp.mem_iff.1 (List.getElem_mem _))
  have hat : a < (textsOf l).length := by omega
  have hbt : b < (textsOf l).length := by omega
  refine ⟨a, b, (textsOf l)[a], (textsOf l)[b], by rw [List.getElem?_eq_getElem hja, ea], by rw [List.getElem?_eq_getElem hj, eb], List.getElem?_eq_getElem hat, List.getElem?_eq_getElem hbt, ?_⟩
  have h1 := hs j (j + 1) a b (Nat.zero_le _) (by omega) (by omega) (by rw [List.getElem?_eq_getElem hja, ea]) (by rw [List.getElem?_eq_getElem hj, eb])
  have hnd : od.Nodup := hp.nodup_iff.2 hF.nd
  have hne : a ≠ b := by
    intro e
    have := (List.getElem_inj (h₀ := hja) (h₁ := hj) hnd).1 (by rw [ea, eb, e])
    omega
  have d1 := hS.depth a _ _ (List.getElem?_eq_getElem ha) (List.getElem?_eq_getElem hat)
  have d2 := hS.depth b _ _ (List.getElem?_eq_getElem hb) (List.getElem?_eq_getElem hbt)
  have s1 := hS.short (List.getElem_mem hat)
  have s2 := hS.short (List.getElem_mem hbt)
  unfold Le cmpD at h1
  rw [nodeOf_nat ha, nodeOf_nat hb, d1, d2] at h1
  have e1 : IntKind.i64.wrap (((textsOf l)[b].length : Int) - ((textsOf l)[a].length : Int)) = ((textsOf l)[b].length : Int) - ((textsOf l)[a].length : Int) := IntWalk.i64_in _ (by omega)
  have e2 : wrap64 ((b : Int) - (a : Int)) = (b : Int) - a := RefS.r_wrap _ (by omega) (by omega)
  rw [e1, e2] at h1
  split at h1 <;> omega
theorem patT_len (s : List Int) : ∀ (l : List (List Int)) (k : Nat), (patT k l s).length ≤ l.length
  | [], k => Nat.le_refl _
  | p :: r, k => by
    rw [patT, List.length_append, List.length_cons]
    have := patT_len s r (k + 1)
    have h2 : (if p <:+ s then [(k : Int)] else []).length ≤ 1 := by split <;> simp
    omega
theorem pat_len {l : List (List Int)} (hl : In 20 l) (u : List Int) : (patT 0 l u).length ≤ 1000000 := by
  have h := patT_len u l 0
  have := hl.len
  omega
end Go.Proofs.Ytgfmplhpoblleaa.FailW
end
section
-- printed by the kit's print.py over several roots (printroots.sh): no hand has typed this
namespace Go.Proofs.Ytgfmplhpoblleaa.PFB
open Go.RowKit Go.Proofs.YtgfmplhpoblleaaW.PrintWords Go.Proofs.YtgfmplhpoblleaaW.PrintLast Go.Proofs.YtgfmplhpoblleaaW.PrintMore Go.Proofs.Ytgfmplhpoblleaa.PRank
attribute [local go_sem] max2_int min2_int max_two min_two max_three min_three max_four min_four   -- for this text's walks alone
set_option linter.unusedVariables false
set_option linter.unusedSimpArgs false

/-! ### paronymref23_Patterns: function 48 -/
def paronymref24_Stands.f (k : Nat) (l0 : List Int) (l1 : List Int) (a2 : Int) : Option (Bool) := if a2 ≥ 0 then (if (l1.length : Int) ≤ (l0.length : Int) then (if a2 ≤ (wrap64 ((l0.length : Int) - (l1.length : Int))) then (if 0 ≤ a2 then (if a2 ≤ (wrap64 (a2 + (l1.length : Int))) then (if (wrap64 (a2 + (l1.length : Int))) ≤ (l0.length : Int) then ((paronymref01_Same.f k ((l0.take ((wrap64 (a2 + (l1.length : Int))) : Int).toNat).drop (a2 : Int).toNat) l1).bind fun t178 => (some t178)) else (none)) else (none)) else (none)) else (some false)) else (some false)) else (some false)
theorem paronymref24_Stands.mono : ∀ a0 a1 a2 k, LeO (paronymref24_Stands.f k a0 a1 a2) (paronymref24_Stands.f (k + 1) a0 a1 a2) := by
  intro a0 a1 a2 k
  unfold paronymref24_Stands.f
  repeat' first
      | (with_reducible exact paronymref01_Same.mono _ _ _)
      | (with_reducible exact LeO.refl _)
      | (with_reducible exact LeO.none _)
      | (with_reducible refine LeO.ite ?_ ?_)
      | (with_reducible refine LeO.bind ?_ (fun _ => ?_))
      | exact paronymref01_Same.mono _ _ _
      | exact LeO.none _
      | refine LeO.ite ?_ ?_
      | refine LeO.bind ?_ (fun _ => ?_)
set_option maxHeartbeats 8000000 in
set_option maxRecDepth 100000 in
theorem paronymref24_Stands.calls (k : Nat) (A0 : Option Addr) (c0 : Nat) (l0 : List Int) (A1 : Option Addr) (c1 : Nat) (l1 : List Int) (a2 : Int) (r : Bool) (w : World) (hr0 : Kd.C (Kd.int .i64) w A0 l0.length l0) (hc0 : l0.length ≤ c0) (hr1 : Kd.C (Kd.int .i64) w A1 l1.length l1) (hc1 : l1.length ≤ c1) (h : paronymref24_Stands.f k l0 l1 a2 = some r) :
    Calls Try.prog 93 #[.slice A0 l0.length c0, .slice A1 l1.length c1, .int .i64 a2] w fun e w' => e = .returned (.bool r) ∧ Drawn0 w w' := by
  have HR0 := Aside0.mk hr0
  have HC0 := Aside0.mk hc0
  clear hr0 hc0
  have HR1 := Aside0.mk hr1
  have HC1 := Aside0.mk hc1
  clear hr1 hc1
  have H : (if a2 ≥ 0 then (if (l1.length : Int) ≤ (l0.length : Int) then (if a2 ≤ (wrap64 ((l0.length : Int) - (l1.length : Int))) then (if 0 ≤ a2 then (if a2 ≤ (wrap64 (a2 + (l1.length : Int))) then (if (wrap64 (a2 + (l1.length : Int))) ≤ (l0.length : Int) then ((paronymref01_Same.f k ((l0.take ((wrap64 (a2 + (l1.length : Int))) : Int).toNat).drop (a2 : Int).toNat) l1).bind fun t178 => (some t178)) else (none)) else (none)) else (none)) else (some false)) else (some false)) else (some false)) = some r := h
  clear h
  by_cases c4 : a2 ≥ 0
  · rw [if_pos c4] at H
    have c4b0 : decide (0 ≤ a2) = true := decide_eq_true c4
    clear c4
    by_cases c5 : (l1.length : Int) ≤ (l0.length : Int)
    · rw [if_pos c5] at H
      have c5b0 : decide ((l1.length : Int) ≤ (l0.length : Int)) = true := decide_eq_true c5
      have c5b1 : decide (l1.length ≤ l0.length) = true := decide_eq_true (Int.ofNat_le.mp c5)
      clear c5
      by_cases c6 : a2 ≤ (wrap64 ((l0.length : Int) - (l1.length : Int)))
      · rw [if_pos c6] at H
        have c6b0 : decide (a2 ≤ (wrap64 ((l0.length : Int) - (l1.length : Int)))) = true := decide_eq_true c6
        clear c6
        by_cases c7 : 0 ≤ a2
        · rw [if_pos c7] at H
          have c7b0 := eq_true c7
          have c7b1 : decide (0 ≤ a2) = true := decide_eq_true c7
          clear c7
          by_cases c8 : a2 ≤ (wrap64 (a2 + (l1.length : Int)))
          · rw [if_pos c8] at H
            have c8b0 := eq_true c8
            have c8b1 : decide (a2 ≤ (wrap64 (a2 + (l1.length : Int)))) = true := decide_eq_true c8
            by_cases c9 : (wrap64 (a2 + (l1.length : Int))) ≤ (l0.length : Int)
            · rw [if_pos c9] at H
              have c9b0 := eq_true c9
              have c9b1 : decide ((wrap64 (a2 + (l1.length : Int))) ≤ (l0.length : Int)) = true := decide_eq_true c9
              replace H := Option.bind_eq_some_iff.mp H
              obtain ⟨t178, A100, H⟩ := H
              replace H : (some t178) = some r := H
              have A10 := Aside0.mk A100
              clear A100
              obtain rfl := Option.some.inj H
              obtain ⟨i011, hi011, _, hsz11, _⟩ := info_parts info3
              obtain ⟨A11, hcut11, hA11, hC11⟩ := print_mid_of (P := Try.prog) (Value.int .i64) 0 23 3 .i64 .i64 Try.underlying23 hi011 hsz11 A0 c0 l0 a2 (wrap64 (a2 + (l1.length : Int))) (of_decide_eq_true (by first | (with_reducible assumption) | assumption)) (by first | omega | exact of_decide_eq_true (by first | (with_reducible assumption) | assumption)) (of_decide_eq_true (by first | (with_reducible assumption) | assumption)) HC0.out
              obtain ⟨mid_, hmid_⟩ : ∃ m_, m_ = ((l0.take ((wrap64 (a2 + (l1.length : Int))) : Int).toNat).drop (a2 : Int).toNat) := ⟨_, rfl⟩
              rw [← hmid_] at hcut11 hA11 hC11
              have A10b := A10.out
              rw [← hmid_] at A10b
              have A10 := Aside0.mk A10b
              clear A10b hmid_
              have HR177 := Aside0.mk (Kd.C_of_reads (h1 := fun _ => rfl) (hA11 _ (Kd.reads_of_C HR0.out)))
              have HC177 := Aside0.mk hC11
              clear hA11 hC11 hi011 hsz11
              go_enter Try.func93, Try.ntmps93
              go_wp2_with (first | (go_at_call 18; (with_reducible refine (paronymref01_Same.calls k _ _ mid_ _ _ l1 t178 _ ?side1 ?side2 ?side3 ?side4 A10.out).mono ?_); (case side1 => repeat (first | exact HR177.out | (with_reducible refine Kd.C_alloc ?_ _) | (with_reducible refine Kd.C_drewN ?_ _) | (with_reducible refine Kd.C_drew ?_))); (case side2 => exact HC177.out); (case side3 => repeat (first | exact HR1.out | (with_reducible refine Kd.C_alloc ?_ _) | (with_reducible refine Kd.C_drewN ?_ _) | (with_reducible refine Kd.C_drew ?_))); (case side4 => exact HC1.out); rintro e w' ⟨rfl, ⟨nd, rfl⟩⟩))
              go_ret
              exact ⟨by first | rfl | (simp; done) | (simp [*]; done), by repeat (first | exact Drawn0.refl _ | apply Drawn0.step)⟩
            · rw [if_neg c9] at H
              exact absurd H (by simp)
          · rw [if_neg c8] at H
            exact absurd H (by simp)
        · rw [if_neg c7] at H
          exact absurd H (by simp)
      · rw [if_neg c6] at H
        have c6b0 : decide (a2 ≤ (wrap64 ((l0.length : Int) - (l1.length : Int)))) = false := decide_eq_false c6
        clear c6
        obtain rfl := Option.some.inj H
        go_enter Try.func93, Try.ntmps93
        go_wp2
        go_ret
        exact ⟨by first | rfl | (simp; done) | (simp [*]; done), by repeat (first | exact Drawn0.refl _ | apply Drawn0.step)⟩
    · rw [if_neg c5] at H
      have c5b0 : decide ((l1.length : Int) ≤ (l0.length : Int)) = false := decide_eq_false c5
      have c5b1 : decide (l1.length ≤ l0.length) = false := decide_eq_false (fun h => c5 (Int.ofNat_le.mpr h))
      clear c5
      obtain rfl := Option.some.inj H
      go_enter Try.func93, Try.ntmps93
      go_wp2
      go_ret
      exact ⟨by first | rfl | (simp; done) | (simp [*]; done), by repeat (first | exact Drawn0.refl _ | apply Drawn0.step)⟩
  · rw [if_neg c4] at H
    have c4b0 : decide (0 ≤ a2) = false := decide_eq_false c4
    clear c4
    obtain rfl := Option.some.inj H
    go_enter Try.func93, Try.ntmps93
    go_wp2
    go_ret
    exact ⟨by first | rfl | (simp; done) | (simp [*]; done), by repeat (first | exact Drawn0.refl _ | apply Drawn0.step)⟩

/-! ### paronymref24_Stream: function 52 -/
mutual
def paronymref24_Stream.l0 : Nat → List (List Int) → List Int → List (S71) → Int → Option ((List (S71)))
  | 0, _, _, _, _ => none
  | k + 1, x0, x1, x5, x6 => if x6 ≤ (x1.length : Int) then (paronymref24_Stream.l1 k x0 x1 x5 x6 0) else (some x5)
def paronymref24_Stream.l1 : Nat → List (List Int) → List Int → List (S71) → Int → Int → Option ((List (S71)))
  | 0, _, _, _, _, _ => none
  | k + 1, x0, x1, x5, x6, x7 => if x7 < (x0.length : Int) then (if 0 ≤ x7 then ((paronymref24_Stands.f k x1 (rd_L1 x0 x7) (wrap64 (x6 - ((rd_L1 x0 x7).length : Int)))).bind fun t181 => (if t181 = true then (if x5.length < 8796093022208 then (paronymref24_Stream.l1 k x0 x1 (x5 ++ [(⟨x7, wrap64 (x6 - ((rd_L1 x0 x7).length : Int))⟩ : S71)]) x6 (wrap64 (x7 + 1))) else (none)) else (paronymref24_Stream.l1 k x0 x1 x5 x6 (wrap64 (x7 + 1))))) else (none)) else (paronymref24_Stream.l0 k x0 x1 x5 (wrap64 (x6 + 1)))
end
def paronymref24_Stream.f (k : Nat) (l0 : List (List Int)) (l1 : List Int) : Option ((List (S71))) := paronymref24_Stream.l0 k l0 l1 ([] : List (S71)) 1
theorem paronymref24_Stream.mono_l : ∀ k, (∀ y0 y1 y2 y3, LeO (paronymref24_Stream.l0 k y0 y1 y2 y3) (paronymref24_Stream.l0 (k + 1) y0 y1 y2 y3)) ∧ (∀ y0 y1 y2 y3 y4, LeO (paronymref24_Stream.l1 k y0 y1 y2 y3 y4) (paronymref24_Stream.l1 (k + 1) y0 y1 y2 y3 y4))
  | 0 => ⟨fun _ _ _ _ r h => by simp [paronymref24_Stream.l0] at h, fun _ _ _ _ _ r h => by simp [paronymref24_Stream.l1] at h⟩
  | k + 1 => by
    obtain ⟨ih0, ih1⟩ := paronymref24_Stream.mono_l k
    refine ⟨?_, ?_⟩
    · intro y0 y1 y2 y3
      unfold paronymref24_Stream.l0
      repeat' first
      | (with_reducible exact ih0 _ _ _ _)
      | (with_reducible exact ih1 _ _ _ _ _)
      | (with_reducible exact paronymref24_Stands.mono _ _ _ _)
      | (with_reducible exact LeO.refl _)
      | (with_reducible exact LeO.none _)
      | (with_reducible refine LeO.ite ?_ ?_)
      | (with_reducible refine LeO.bind ?_ (fun _ => ?_))
      | exact ih0 _ _ _ _
      | exact ih1 _ _ _ _ _
      | exact paronymref24_Stands.mono _ _ _ _
      | exact LeO.none _
      | refine LeO.ite ?_ ?_
      | refine LeO.bind ?_ (fun _ => ?_)
    · intro y0 y1 y2 y3 y4
      unfold paronymref24_Stream.l1
      repeat' first
      | (with_reducible exact ih0 _ _ _ _)
      | (with_reducible exact ih1 _ _ _ _ _)
      | (with_reducible exact paronymref24_Stands.mono _ _ _ _)
      | (with_reducible exact LeO.refl _)
      | (with_reducible exact LeO.none _)
      | (with_reducible refine LeO.ite ?_ ?_)
      | (with_reducible refine LeO.bind ?_ (fun _ => ?_))
      | exact ih0 _ _ _ _
      | exact ih1 _ _ _ _ _
      | exact paronymref24_Stands.mono _ _ _ _
      | exact LeO.none _
      | refine LeO.ite ?_ ?_
      | refine LeO.bind ?_ (fun _ => ?_)
theorem paronymref24_Stream.mono : ∀ a0 a1 k, LeO (paronymref24_Stream.f k a0 a1) (paronymref24_Stream.f (k + 1) a0 a1) := by
  intro a0 a1 k
  obtain ⟨ih0, ih1⟩ := paronymref24_Stream.mono_l k
  unfold paronymref24_Stream.f
  repeat' first
      | (with_reducible exact ih0 _ _ _ _)
      | (with_reducible exact ih1 _ _ _ _ _)
      | (with_reducible exact paronymref24_Stands.mono _ _ _ _)
      | (with_reducible exact LeO.refl _)
      | (with_reducible exact LeO.none _)
      | (with_reducible refine LeO.ite ?_ ?_)
      | (with_reducible refine LeO.bind ?_ (fun _ => ?_))
      | exact ih0 _ _ _ _
      | exact ih1 _ _ _ _ _
      | exact paronymref24_Stands.mono _ _ _ _
      | exact LeO.none _
      | refine LeO.ite ?_ ?_
      | refine LeO.bind ?_ (fun _ => ?_)
set_option maxHeartbeats 8000000 in
set_option maxRecDepth 100000 in
theorem paronymref24_Stream.calls (k : Nat) (A0 : Option Addr) (c0 : Nat) (l0 : List (List Int)) (A1 : Option Addr) (c1 : Nat) (l1 : List Int) (r : List (S71)) (w : World) (hr0 : Kd.C (Kd.slice 3 (Kd.int .i64)) w A0 l0.length l0) (hc0 : l0.length ≤ c0) (hr1 : Kd.C (Kd.int .i64) w A1 l1.length l1) (hc1 : l1.length ≤ c1) (h : paronymref24_Stream.f k l0 l1 = some r) :
    Calls Try.prog 52 #[.slice A0 l0.length c0, .slice A1 l1.length c1] w fun e w' => ∃ v0_ : Value, e = .returned (v0_) ∧ Kd.R k71 71 w' w.heap.size (fun _ => True) v0_ r ∧ Below w.heap.size w w' := by
  have hu71 := Try.underlying71
  have HR0 := Aside0.mk hr0
  have HC0 := Aside0.mk hc0
  clear hr0 hc0
  have HR1 := Aside0.mk hr1
  have HC1 := Aside0.mk hc1
  clear hr1 hc1
  have HB := Aside0.mk (Below.refl w.heap.size w)
  have H : (paronymref24_Stream.l0 k l0 l1 ([] : List (S71)) 1) = some r := h
  clear h
  have H' := Aside0.mk H
  clear H
  go_enter Try.func52, Try.ntmps52
  go_wp2
  repeat (go_quiet (fail); try go_wp2)
  go_loopg [5, 6] k (fun kq v5 v6 w' => ∃ (x5_1 : List (S71)) (x6_1 : Int), v6 = .int .i64 x6_1 ∧ Aside0 (paronymref24_Stream.l0 kq l0 l1 x5_1 x6_1 = some r) ∧ Aside0 (kq ≤ k) ∧ Aside0 (Kd.R k71 71 w' w.heap.size (fun _ => True) v5 x5_1) ∧ Aside0 (Below w.heap.size w w'))
  case atStart => exact ⟨(([] : List (S71))), (1), (by first | rfl | (simp; done) | (simp [*]; done)), H', ⟨Nat.le_refl _⟩, ⟨by first | exact Kd.R_nil _ _ _ _ _ | exact Kd.N_nil _ _ _ _ _ | exact Kd.V_nil _ _ _ _ _ | exact Kd.Q_nil _ _ _ _ _ | exact Kd.S_nil _ _ _ _ _⟩, ⟨by repeat (first | (with_reducible first | exact HB.out | apply below_alloc | apply pw_below_drewN | apply below_drew1) | exact HB.out)⟩⟩
  case round =>
    clear H'
    try clear c1
    try clear p2
    obtain ⟨x5_1, x6_1, rfl, HA, HK1, HO_5, HB⟩ := hrel
    cases gk with
    | zero => exact absurd HA.out (by simp [paronymref24_Stream.l0])
    | succ k1 =>
      have H := HA.out
      clear HA
      simp only [paronymref24_Stream.l0] at H
      by_cases c3 : x6_1 ≤ (l1.length : Int)
      · rw [if_pos c3] at H
        have c3b0 : decide (x6_1 ≤ (l1.length : Int)) = true := decide_eq_true c3
        clear c3
        have H' := Aside0.mk H
        clear H
        go_wp2
        repeat (go_quiet (fail); try go_wp2)
        go_loopg [5, 7] k1 (fun kq v5 v7 w' => ∃ (x5_2 : List (S71)) (x7_2 : Int), v7 = .int .i64 x7_2 ∧ Aside0 (paronymref24_Stream.l1 kq l0 l1 x5_2 x6_1 x7_2 = some r) ∧ Aside0 (kq ≤ k1) ∧ Aside0 (Kd.R k71 71 w' w.heap.size (fun _ => True) v5 x5_2) ∧ Aside0 (Below w.heap.size w w'))
        case atStart => exact ⟨(x5_1), (0), (by first | rfl | (simp; done) | (simp [*]; done)), H', ⟨Nat.le_refl _⟩, ⟨by (with_reducible repeat (first | apply Kd.R_alloc | apply Kd.R_drewN | apply Kd.R_drew)); exact HO_5.out⟩, ⟨by repeat (first | (with_reducible first | exact HB.out | apply below_alloc | apply pw_below_drewN | apply below_drew1) | exact HB.out)⟩⟩
        case round =>
          clear H'
          try clear c1
          try clear p2
          try clear c3
          try clear c3b0
          try clear p2
          obtain ⟨x5_2, x7_2, rfl, HA, HK2, HO_5, HB⟩ := hrel
          cases gk with
          | zero => exact absurd HA.out (by simp [paronymref24_Stream.l1])
          | succ k2 =>
            have H := HA.out
            clear HA
            simp only [paronymref24_Stream.l1] at H
            by_cases c4 : x7_2 < (l0.length : Int)
            · rw [if_pos c4] at H
              have c4b0 : decide (x7_2 < (l0.length : Int)) = true := decide_eq_true c4
              clear c4
              by_cases c5 : 0 ≤ x7_2
              · rw [if_pos c5] at H
                have c5b0 : decide (0 ≤ x7_2) = true := decide_eq_true c5
                clear c5
                replace H := Option.bind_eq_some_iff.mp H
                obtain ⟨t181, A60, H⟩ := H
                replace H : (if t181 = true then (if x5_2.length < 8796093022208 then (paronymref24_Stream.l1 k2 l0 l1 (x5_2 ++ [(⟨x7_2, wrap64 (x6_1 - ((rd_L1 l0 x7_2).length : Int))⟩ : S71)]) x6_1 (wrap64 (x7_2 + 1))) else (none)) else (paronymref24_Stream.l1 k2 l0 l1 x5_2 x6_1 (wrap64 (x7_2 + 1)))) = some r := H
                have A6 := Aside0.mk A60
                clear A60
                by_cases c7 : t181 = true
                · subst c7
                  have H1 : (if x5_2.length < 8796093022208 then (paronymref24_Stream.l1 k2 l0 l1 (x5_2 ++ [(⟨x7_2, wrap64 (x6_1 - ((rd_L1 l0 x7_2).length : Int))⟩ : S71)]) x6_1 (wrap64 (x7_2 + 1))) else (none)) = some r := by rw [if_pos rfl] at H; exact H
                  clear H
                  have H := H1
                  clear H1
                  by_cases c8 : x5_2.length < 8796093022208
                  · rw [if_pos c8] at H
                    have LMc8 := Aside0.mk c8
                    clear c8
                    obtain ⟨y183, hy183⟩ : ∃ y_ : List (S71), y_ = (x5_2 ++ [(⟨x7_2, wrap64 (x6_1 - ((rd_L1 l0 x7_2).length : Int))⟩ : S71)]) := ⟨_, rfl⟩
                    replace H : (paronymref24_Stream.l1 k2 l0 l1 y183 x6_1 (wrap64 (x7_2 + 1))) = some r := by first | (rw [hy183]; with_reducible exact H) | (have H2_ := (Option.bind_some _ _).symm.trans H; rw [hy183]; with_reducible exact H2_) | (have H2_ := (Option.bind_some _ _).symm.trans H; with_reducible exact H2_) | with_reducible exact H | (rw [hy183]; exact H) | exact H
                    have Ny183 := Aside0.mk hy183
                    clear hy183
                    have H' := Aside0.mk H
                    clear H
                    have p179 : 0 ≤ (x7_2 : Int) := of_decide_eq_true (by first | (with_reducible assumption) | assumption)
                    have q179 : x7_2 < (l0.length : Int) := of_decide_eq_true (by first | (with_reducible assumption) | assumption)
                    obtain ⟨ad179, A179_0, c179_0, e179, hx179_0, hl179_0, hi179_0⟩ := at_L1 HR0.out x7_2 p179 q179
                    cases e179
                    replace hx179_0 := (HB.out.cell (World.block_lt_of_cell? w _ hx179_0)).trans hx179_0
                    have HR179_0 := Aside0.mk hi179_0
                    have HC179_0 := Aside0.mk hl179_0
                    clear hi179_0 hl179_0
                    replace p179 := eq_true p179
                    replace q179 := eq_true q179
                    have p180 : 0 ≤ (x7_2 : Int) := of_decide_eq_true (by first | (with_reducible assumption) | assumption)
                    have q180 : x7_2 < (l0.length : Int) := of_decide_eq_true (by first | (with_reducible assumption) | assumption)
                    obtain ⟨ad180, A180_0, c180_0, e180, hx180_0, hl180_0, hi180_0⟩ := at_L1 HR0.out x7_2 p180 q180
                    obtain rfl : ad179 = ad180 := (by injection e180)
                    replace hx180_0 := (HB.out.cell (World.block_lt_of_cell? w _ hx180_0)).trans hx180_0
                    have HR180_0 := Aside0.mk hi180_0
                    have HC180_0 := Aside0.mk hl180_0
                    clear hi180_0 hl180_0
                    replace p180 := eq_true p180
                    replace q180 := eq_true q180
                    have ea_ := Option.some.inj (hx179_0.symm.trans hx180_0)
                    injection ea_ with ea_ en_ ec_
                    subst ea_
                    subst ec_
                    clear en_
                    obtain ⟨jw_, hjw_⟩ : ∃ j_, j_ = (wrap64 (x6_1 - ((rd_L1 l0 x7_2).length : Int))) := ⟨_, rfl⟩
                    have hjw2_ : IntKind.i64.wrap (x6_1 - ((rd_L1 l0 x7_2).length : Int)) = jw_ := (i64_w _).trans hjw_.symm
                    have A6b := A6.out
                    rw [← hjw_] at A6b
                    have A6 := Aside0.mk A6b
                    have Nyb := Ny183.out
                    rw [← hjw_] at Nyb
                    have Ny183 := Aside0.mk Nyb
                    clear Nyb
                    clear A6b hjw_
                    go_wp2_with (first | (go_at_call 93; (with_reducible refine (paronymref24_Stands.calls k2 _ _ l1 _ _ (rd_L1 l0 x7_2) jw_ true _ ?side1 ?side2 ?side3 ?side4 A6.out).mono ?_); (case side1 => repeat (first | exact (Kd.C_below HR1.out HB.out) | (with_reducible refine Kd.C_alloc ?_ _) | (with_reducible refine Kd.C_drewN ?_ _) | (with_reducible refine Kd.C_drew ?_))); (case side2 => exact HC1.out); (case side3 => repeat (first | exact (Kd.C_below HR179_0.out HB.out) | (with_reducible refine Kd.C_alloc ?_ _) | (with_reducible refine Kd.C_drewN ?_ _) | (with_reducible refine Kd.C_drew ?_))); (case side4 => exact HC179_0.out); rintro e w' ⟨rfl, ⟨nd, rfl⟩⟩; (try first | exact ⟨rfl, _, World.drewN_drewN _ _ _⟩ | exact ⟨rfl, _, Eq.trans (World.drewN_drewN _ _ _) (congrArg (World.drewN _) (Nat.add_assoc _ _ _))⟩); have p182 : 0 ≤ (x7_2 : Int) := of_decide_eq_true (by first | (with_reducible assumption) | assumption); have q182 : x7_2 < (l0.length : Int) := of_decide_eq_true (by first | (with_reducible assumption) | assumption); obtain ⟨ad182, A182_0, c182_0, e182, hx182_0, hl182_0, hi182_0⟩ := at_L1 HR0.out x7_2 p182 q182; obtain rfl : ad179 = ad182 := (by injection e182); replace hx182_0 := (HB.out.cell (World.block_lt_of_cell? w _ hx182_0)).trans hx182_0; have HR182_0 := Aside0.mk hi182_0; have HC182_0 := Aside0.mk hl182_0; clear hi182_0 hl182_0; replace p182 := eq_true p182; replace q182 := eq_true q182; have ea_ := Option.some.inj (hx179_0.symm.trans hx182_0); injection ea_ with ea_ en_ ec_; subst ea_; subst ec_; clear en_) | ((with_reducible refine gate_builtin (b := .append) (xs := #[.tmp 33, .tmp 43]) rfl ?_); at_builtin; refine Kd.R_append k71 (w0 := w) w.heap.size rfl (.tmp 33) (.tmp 43) 68 71 (.agg #[(.int .i64 0), (.int .i64 0)]) 16 rfl Try.underlying68 info71 rfl (by decide) (by omega) u5 x5_2 (⟨x7_2, jw_⟩ : S71) [.int .i64 x7_2, .int .i64 jw_] (fun _ => True) (fun _ => False) rfl rfl ?aP (fun _ hk => hk.elim) ?aF ?aO ?aB ?aS ?aL ?_; (case aP => exact k71_mkM _ _ _ (⟨x7_2, jw_⟩ : S71)); (case aB => exact (by repeat (first | (with_reducible first | exact HB.out | apply below_alloc | apply pw_below_drewN | apply below_drew1) | exact HB.out))); (case aF => exact (fun _ _ => trivial)); (case aO => exact (by (with_reducible repeat (first | apply Kd.R_alloc | apply Kd.R_drewN | apply Kd.R_drew)); exact HO_5.out)); (case aS => exact (below_size (by repeat (first | (with_reducible first | exact HB.out | apply below_alloc | apply pw_below_drewN | apply below_drew1) | exact HB.out)))); (case aL => have := LMc8.out; omega); intro v184 w9 ho hb hg hat; rw [← Ny183.out] at ho; have n0_ := Aside0.mk (hb); have n1_ := Aside0.mk (ho); clear HB; clear HO_5; have HB := n0_; have HO185 := n1_; clear n0_ n1_; clear ho hb hg hat))
                    repeat (go_quiet (first | (go_at_call 93; (with_reducible refine (paronymref24_Stands.calls k2 _ _ l1 _ _ (rd_L1 l0 x7_2) jw_ true _ ?side1 ?side2 ?side3 ?side4 A6.out).mono ?_); (case side1 => repeat (first | exact (Kd.C_below HR1.out HB.out) | (with_reducible refine Kd.C_alloc ?_ _) | (with_reducible refine Kd.C_drewN ?_ _) | (with_reducible refine Kd.C_drew ?_))); (case side2 => exact HC1.out); (case side3 => repeat (first | exact (Kd.C_below HR179_0.out HB.out) | (with_reducible refine Kd.C_alloc ?_ _) | (with_reducible refine Kd.C_drewN ?_ _) | (with_reducible refine Kd.C_drew ?_))); (case side4 => exact HC179_0.out); rintro e w' ⟨rfl, ⟨nd, rfl⟩⟩; (try first | exact ⟨rfl, _, World.drewN_drewN _ _ _⟩ | exact ⟨rfl, _, Eq.trans (World.drewN_drewN _ _ _) (congrArg (World.drewN _) (Nat.add_assoc _ _ _))⟩); have p182 : 0 ≤ (x7_2 : Int) := of_decide_eq_true (by first | (with_reducible assumption) | assumption); have q182 : x7_2 < (l0.length : Int) := of_decide_eq_true (by first | (with_reducible assumption) | assumption); obtain ⟨ad182, A182_0, c182_0, e182, hx182_0, hl182_0, hi182_0⟩ := at_L1 HR0.out x7_2 p182 q182; obtain rfl : ad179 = ad182 := (by injection e182); replace hx182_0 := (HB.out.cell (World.block_lt_of_cell? w _ hx182_0)).trans hx182_0; have HR182_0 := Aside0.mk hi182_0; have HC182_0 := Aside0.mk hl182_0; clear hi182_0 hl182_0; replace p182 := eq_true p182; replace q182 := eq_true q182; have ea_ := Option.some.inj (hx179_0.symm.trans hx182_0); injection ea_ with ea_ en_ ec_; subst ea_; subst ec_; clear en_) | ((with_reducible refine gate_builtin (b := .append) (xs := #[.tmp 33, .tmp 43]) rfl ?_); at_builtin; refine Kd.R_append k71 (w0 := w) w.heap.size rfl (.tmp 33) (.tmp 43) 68 71 (.agg #[(.int .i64 0), (.int .i64 0)]) 16 rfl Try.underlying68 info71 rfl (by decide) (by omega) u5 x5_2 (⟨x7_2, jw_⟩ : S71) [.int .i64 x7_2, .int .i64 jw_] (fun _ => True) (fun _ => False) rfl rfl ?aP (fun _ hk => hk.elim) ?aF ?aO ?aB ?aS ?aL ?_; (case aP => exact k71_mkM _ _ _ (⟨x7_2, jw_⟩ : S71)); (case aB => exact (by repeat (first | (with_reducible first | exact HB.out | apply below_alloc | apply pw_below_drewN | apply below_drew1) | exact HB.out))); (case aF => exact (fun _ _ => trivial)); (case aO => exact (by (with_reducible repeat (first | apply Kd.R_alloc | apply Kd.R_drewN | apply Kd.R_drew)); exact HO_5.out)); (case aS => exact (below_size (by repeat (first | (with_reducible first | exact HB.out | apply below_alloc | apply pw_below_drewN | apply below_drew1) | exact HB.out)))); (case aL => have := LMc8.out; omega); intro v184 w9 ho hb hg hat; rw [← Ny183.out] at ho; have n0_ := Aside0.mk (hb); have n1_ := Aside0.mk (ho); clear HB; clear HO_5; have HB := n0_; have HO185 := n1_; clear n0_ n1_; clear ho hb hg hat)); try go_wp2_with (first | (go_at_call 93; (with_reducible refine (paronymref24_Stands.calls k2 _ _ l1 _ _ (rd_L1 l0 x7_2) jw_ true _ ?side1 ?side2 ?side3 ?side4 A6.out).mono ?_); (case side1 => repeat (first | exact (Kd.C_below HR1.out HB.out) | (with_reducible refine Kd.C_alloc ?_ _) | (with_reducible refine Kd.C_drewN ?_ _) | (with_reducible refine Kd.C_drew ?_))); (case side2 => exact HC1.out); (case side3 => repeat (first | exact (Kd.C_below HR179_0.out HB.out) | (with_reducible refine Kd.C_alloc ?_ _) | (with_reducible refine Kd.C_drewN ?_ _) | (with_reducible refine Kd.C_drew ?_))); (case side4 => exact HC179_0.out); rintro e w' ⟨rfl, ⟨nd, rfl⟩⟩; (try first | exact ⟨rfl, _, World.drewN_drewN _ _ _⟩ | exact ⟨rfl, _, Eq.trans (World.drewN_drewN _ _ _) (congrArg (World.drewN _) (Nat.add_assoc _ _ _))⟩); have p182 : 0 ≤ (x7_2 : Int) := of_decide_eq_true (by first | (with_reducible assumption) | assumption); have q182 : x7_2 < (l0.length : Int) := of_decide_eq_true (by first | (with_reducible assumption) | assumption); obtain ⟨ad182, A182_0, c182_0, e182, hx182_0, hl182_0, hi182_0⟩ := at_L1 HR0.out x7_2 p182 q182; obtain rfl : ad179 = ad182 := (by injection e182); replace hx182_0 := (HB.out.cell (World.block_lt_of_cell? w _ hx182_0)).trans hx182_0; have HR182_0 := Aside0.mk hi182_0; have HC182_0 := Aside0.mk hl182_0; clear hi182_0 hl182_0; replace p182 := eq_true p182; replace q182 := eq_true q182; have ea_ := Option.some.inj (hx179_0.symm.trans hx182_0); injection ea_ with ea_ en_ ec_; subst ea_; subst ec_; clear en_) | ((with_reducible refine gate_builtin (b := .append) (xs := #[.tmp 33, .tmp 43]) rfl ?_); at_builtin; refine Kd.R_append k71 (w0 := w) w.heap.size rfl (.tmp 33) (.tmp 43) 68 71 (.agg #[(.int .i64 0), (.int .i64 0)]) 16 rfl Try.underlying68 info71 rfl (by decide) (by omega) u5 x5_2 (⟨x7_2, jw_⟩ : S71) [.int .i64 x7_2, .int .i64 jw_] (fun _ => True) (fun _ => False) rfl rfl ?aP (fun _ hk => hk.elim) ?aF ?aO ?aB ?aS ?aL ?_; (case aP => exact k71_mkM _ _ _ (⟨x7_2, jw_⟩ : S71)); (case aB => exact (by repeat (first | (with_reducible first | exact HB.out | apply below_alloc | apply pw_below_drewN | apply below_drew1) | exact HB.out))); (case aF => exact (fun _ _ => trivial)); (case aO => exact (by (with_reducible repeat (first | apply Kd.R_alloc | apply Kd.R_drewN | apply Kd.R_drew)); exact HO_5.out)); (case aS => exact (below_size (by repeat (first | (with_reducible first | exact HB.out | apply below_alloc | apply pw_below_drewN | apply below_drew1) | exact HB.out)))); (case aL => have := LMc8.out; omega); intro v184 w9 ho hb hg hat; rw [← Ny183.out] at ho; have n0_ := Aside0.mk (hb); have n1_ := Aside0.mk (ho); clear HB; clear HO_5; have HB := n0_; have HO185 := n1_; clear n0_ n1_; clear ho hb hg hat)))
                    go_roundg k2
                    case measure => have := HK1.out; have := HK2.out; omega
                    case rel => exact ⟨(y183), (wrap64 (x7_2 + 1)), (by first | rfl | (simp; done) | (simp [*]; done)), H', ⟨by have := HK1.out; have := HK2.out; omega⟩, ⟨by (with_reducible repeat (first | apply Kd.R_alloc | apply Kd.R_drewN | apply Kd.R_drew)); exact HO185.out⟩, ⟨by repeat (first | (with_reducible first | exact HB.out | apply below_alloc | apply pw_below_drewN | apply below_drew1) | exact HB.out)⟩⟩
                  · rw [if_neg c8] at H
                    exact absurd H (by simp)
                · replace c7 := Bool.eq_false_iff.mpr c7
                  subst c7
                  have H1 : (paronymref24_Stream.l1 k2 l0 l1 x5_2 x6_1 (wrap64 (x7_2 + 1))) = some r := by rw [if_neg (show ¬ (false = true) by decide)] at H; exact H
                  clear H
                  have H := H1
                  clear H1
                  have H' := Aside0.mk H
                  clear H
                  have p179 : 0 ≤ (x7_2 : Int) := of_decide_eq_true (by first | (with_reducible assumption) | assumption)
                  have q179 : x7_2 < (l0.length : Int) := of_decide_eq_true (by first | (with_reducible assumption) | assumption)
                  obtain ⟨ad179, A179_0, c179_0, e179, hx179_0, hl179_0, hi179_0⟩ := at_L1 HR0.out x7_2 p179 q179
                  cases e179
                  replace hx179_0 := (HB.out.cell (World.block_lt_of_cell? w _ hx179_0)).trans hx179_0
                  have HR179_0 := Aside0.mk hi179_0
                  have HC179_0 := Aside0.mk hl179_0
                  clear hi179_0 hl179_0
                  replace p179 := eq_true p179
                  replace q179 := eq_true q179
                  have p180 : 0 ≤ (x7_2 : Int) := of_decide_eq_true (by first | (with_reducible assumption) | assumption)
                  have q180 : x7_2 < (l0.length : Int) := of_decide_eq_true (by first | (with_reducible assumption) | assumption)
                  obtain ⟨ad180, A180_0, c180_0, e180, hx180_0, hl180_0, hi180_0⟩ := at_L1 HR0.out x7_2 p180 q180
                  obtain rfl : ad179 = ad180 := (by injection e180)
                  replace hx180_0 := (HB.out.cell (World.block_lt_of_cell? w _ hx180_0)).trans hx180_0
                  have HR180_0 := Aside0.mk hi180_0
                  have HC180_0 := Aside0.mk hl180_0
                  clear hi180_0 hl180_0
                  replace p180 := eq_true p180
                  replace q180 := eq_true q180
                  have ea_ := Option.some.inj (hx179_0.symm.trans hx180_0)
                  injection ea_ with ea_ en_ ec_
                  subst ea_
                  subst ec_
                  clear en_
                  obtain ⟨jw_, hjw_⟩ : ∃ j_, j_ = (wrap64 (x6_1 - ((rd_L1 l0 x7_2).length : Int))) := ⟨_, rfl⟩
                  have hjw2_ : IntKind.i64.wrap (x6_1 - ((rd_L1 l0 x7_2).length : Int)) = jw_ := (i64_w _).trans hjw_.symm
                  have A6b := A6.out
                  rw [← hjw_] at A6b
                  have A6 := Aside0.mk A6b
                  clear A6b hjw_
                  go_wp2_with (first | (go_at_call 93; (with_reducible refine (paronymref24_Stands.calls k2 _ _ l1 _ _ (rd_L1 l0 x7_2) jw_ false _ ?side1 ?side2 ?side3 ?side4 A6.out).mono ?_); (case side1 => repeat (first | exact (Kd.C_below HR1.out HB.out) | (with_reducible refine Kd.C_alloc ?_ _) | (with_reducible refine Kd.C_drewN ?_ _) | (with_reducible refine Kd.C_drew ?_))); (case side2 => exact HC1.out); (case side3 => repeat (first | exact (Kd.C_below HR179_0.out HB.out) | (with_reducible refine Kd.C_alloc ?_ _) | (with_reducible refine Kd.C_drewN ?_ _) | (with_reducible refine Kd.C_drew ?_))); (case side4 => exact HC179_0.out); rintro e w' ⟨rfl, ⟨nd, rfl⟩⟩; (try first | exact ⟨rfl, _, World.drewN_drewN _ _ _⟩ | exact ⟨rfl, _, Eq.trans (World.drewN_drewN _ _ _) (congrArg (World.drewN _) (Nat.add_assoc _ _ _))⟩)))
                  repeat (go_quiet (first | (go_at_call 93; (with_reducible refine (paronymref24_Stands.calls k2 _ _ l1 _ _ (rd_L1 l0 x7_2) jw_ false _ ?side1 ?side2 ?side3 ?side4 A6.out).mono ?_); (case side1 => repeat (first | exact (Kd.C_below HR1.out HB.out) | (with_reducible refine Kd.C_alloc ?_ _) | (with_reducible refine Kd.C_drewN ?_ _) | (with_reducible refine Kd.C_drew ?_))); (case side2 => exact HC1.out); (case side3 => repeat (first | exact (Kd.C_below HR179_0.out HB.out) | (with_reducible refine Kd.C_alloc ?_ _) | (with_reducible refine Kd.C_drewN ?_ _) | (with_reducible refine Kd.C_drew ?_))); (case side4 => exact HC179_0.out); rintro e w' ⟨rfl, ⟨nd, rfl⟩⟩; (try first | exact ⟨rfl, _, World.drewN_drewN _ _ _⟩ | exact ⟨rfl, _, Eq.trans (World.drewN_drewN _ _ _) (congrArg (World.drewN _) (Nat.add_assoc _ _ _))⟩))); try go_wp2_with (first | (go_at_call 93; (with_reducible refine (paronymref24_Stands.calls k2 _ _ l1 _ _ (rd_L1 l0 x7_2) jw_ false _ ?side1 ?side2 ?side3 ?side4 A6.out).mono ?_); (case side1 => repeat (first | exact (Kd.C_below HR1.out HB.out) | (with_reducible refine Kd.C_alloc ?_ _) | (with_reducible refine Kd.C_drewN ?_ _) | (with_reducible refine Kd.C_drew ?_))); (case side2 => exact HC1.out); (case side3 => repeat (first | exact (Kd.C_below HR179_0.out HB.out) | (with_reducible refine Kd.C_alloc ?_ _) | (with_reducible refine Kd.C_drewN ?_ _) | (with_reducible refine Kd.C_drew ?_))); (case side4 => exact HC179_0.out); rintro e w' ⟨rfl, ⟨nd, rfl⟩⟩; (try first | exact ⟨rfl, _, World.drewN_drewN _ _ _⟩ | exact ⟨rfl, _, Eq.trans (World.drewN_drewN _ _ _) (congrArg (World.drewN _) (Nat.add_assoc _ _ _))⟩))))
                  go_roundg k2
                  case measure => have := HK1.out; have := HK2.out; omega
                  case rel => exact ⟨(x5_2), (wrap64 (x7_2 + 1)), (by first | rfl | (simp; done) | (simp [*]; done)), H', ⟨by have := HK1.out; have := HK2.out; omega⟩, ⟨by (with_reducible repeat (first | apply Kd.R_alloc | apply Kd.R_drewN | apply Kd.R_drew)); exact HO_5.out⟩, ⟨by repeat (first | (with_reducible first | exact HB.out | apply below_alloc | apply pw_below_drewN | apply below_drew1) | exact HB.out)⟩⟩
              · rw [if_neg c5] at H
                exact absurd H (by simp)
            · rw [if_neg c4] at H
              have c4b0 : decide (x7_2 < (l0.length : Int)) = false := decide_eq_false c4
              clear c4
              have H' := Aside0.mk H
              clear H
              go_wp2
              repeat (go_quiet (fail); try go_wp2)
              go_roundg k2
              case measure => have := HK1.out; have := HK2.out; omega
              case rel => exact ⟨(x5_2), (wrap64 (x6_1 + 1)), (by first | rfl | (simp; done) | (simp [*]; done)), H', ⟨by have := HK1.out; have := HK2.out; omega⟩, ⟨by (with_reducible repeat (first | apply Kd.R_alloc | apply Kd.R_drewN | apply Kd.R_drew)); exact HO_5.out⟩, ⟨by repeat (first | (with_reducible first | exact HB.out | apply below_alloc | apply pw_below_drewN | apply below_drew1) | exact HB.out)⟩⟩
      · rw [if_neg c3] at H
        have c3b0 : decide (x6_1 ≤ (l1.length : Int)) = false := decide_eq_false c3
        clear c3
        obtain rfl := Option.some.inj H
        go_wp2
        repeat (go_quiet (fail); try go_wp2)
        go_ret
        exact ⟨_, by first | rfl | (simp [errW_none, errW_some] <;> rfl) | (simp [*, errW_none, errW_some] <;> rfl), by (with_reducible repeat (first | apply Kd.R_alloc | apply Kd.R_drewN | apply Kd.R_drew)); exact HO_5.out, by repeat (first | (with_reducible first | exact HB.out | apply below_alloc | apply pw_below_drewN | apply below_drew1) | exact HB.out)⟩

/-! ### paronymref24_Find: function 58 -/
mutual
def paronymref24_Find.l0 : Nat → List (List Int) → List Int → List (S71) → Int → Option ((List (S71)))
  | 0, _, _, _, _ => none
  | k + 1, x0, x1, x5, x6 => if x6 < (x1.length : Int) then (paronymref24_Find.l1 k x0 x1 x5 x6 0) else (some x5)
def paronymref24_Find.l1 : Nat → List (List Int) → List Int → List (S71) → Int → Int → Option ((List (S71)))
  | 0, _, _, _, _, _ => none
  | k + 1, x0, x1, x5, x6, x7 => if x7 < (x0.length : Int) then (if 0 ≤ x7 then ((paronymref24_Stands.f k x1 (rd_L1 x0 x7) x6).bind fun t187 => (if t187 = true then (if x5.length < 8796093022208 then (paronymref24_Find.l1 k x0 x1 (x5 ++ [(⟨x7, x6⟩ : S71)]) x6 (wrap64 (x7 + 1))) else (none)) else (paronymref24_Find.l1 k x0 x1 x5 x6 (wrap64 (x7 + 1))))) else (none)) else (paronymref24_Find.l0 k x0 x1 x5 (wrap64 (x6 + 1)))
end
def paronymref24_Find.f (k : Nat) (l0 : List (List Int)) (l1 : List Int) : Option ((List (S71))) := paronymref24_Find.l0 k l0 l1 ([] : List (S71)) 0
theorem paronymref24_Find.mono_l : ∀ k, (∀ y0 y1 y2 y3, LeO (paronymref24_Find.l0 k y0 y1 y2 y3) (paronymref24_Find.l0 (k + 1) y0 y1 y2 y3)) ∧ (∀ y0 y1 y2 y3 y4, LeO (paronymref24_Find.l1 k y0 y1 y2 y3 y4) (paronymref24_Find.l1 (k + 1) y0 y1 y2 y3 y4))
  | 0 => ⟨fun _ _ _ _ r h => by simp [paronymref24_Find.l0] at h, fun _ _ _ _ _ r h => by simp [paronymref24_Find.l1] at h⟩
  | k + 1 => by
    obtain ⟨ih0, ih1⟩ := paronymref24_Find.mono_l k
    refine ⟨?_, ?_⟩
    · intro y0 y1 y2 y3
      unfold paronymref24_Find.l0
      repeat' first
      | (with_reducible exact ih0 _ _ _ _)
      | (with_reducible exact ih1 _ _ _ _ _)
      | (with_reducible exact paronymref24_Stands.mono _ _ _ _)
      | (with_reducible exact LeO.refl _)
      | (with_reducible exact LeO.none _)
      | (with_reducible refine LeO.ite ?_ ?_)
      | (with_reducible refine LeO.bind ?_ (fun _ => ?_))
      | exact ih0 _ _ _ _
      | exact ih1 _ _ _ _ _
      | exact paronymref24_Stands.mono _ _ _ _
      | exact LeO.none _
      | refine LeO.ite ?_ ?_
      | refine LeO.bind ?_ (fun _ => ?_)
    · intro y0 y1 y2 y3 y4
      unfold paronymref24_Find.l1
      repeat' first
      | (with_reducible exact ih0 _ _ _ _)
      | (with_reducible exact ih1 _ _ _ _ _)
      | (with_reducible exact paronymref24_Stands.mono _ _ _ _)
      | (with_reducible exact LeO.refl _)
      | (with_reducible exact LeO.none _)
      | (with_reducible refine LeO.ite ?_ ?_)
      | (with_reducible refine LeO.bind ?_ (fun _ => ?_))
      | exact ih0 _ _ _ _
      | exact ih1 _ _ _ _ _
      | exact paronymref24_Stands.mono _ _ _ _
      | exact LeO.none _
      | refine LeO.ite ?_ ?_
      | refine LeO.bind ?_ (fun _ => ?_)
theorem paronymref24_Find.mono : ∀ a0 a1 k, LeO (paronymref24_Find.f k a0 a1) (paronymref24_Find.f (k + 1) a0 a1) := by
  intro a0 a1 k
  obtain ⟨ih0, ih1⟩ := paronymref24_Find.mono_l k
  unfold paronymref24_Find.f
  repeat' first
      | (with_reducible exact ih0 _ _ _ _)
      | (with_reducible exact ih1 _ _ _ _ _)
      | (with_reducible exact paronymref24_Stands.mono _ _ _ _)
      | (with_reducible exact LeO.refl _)
      | (with_reducible exact LeO.none _)
      | (with_reducible refine LeO.ite ?_ ?_)
      | (with_reducible refine LeO.bind ?_ (fun _ => ?_))
      | exact ih0 _ _ _ _
      | exact ih1 _ _ _ _ _
      | exact paronymref24_Stands.mono _ _ _ _
      | exact LeO.none _
      | refine LeO.ite ?_ ?_
      | refine LeO.bind ?_ (fun _ => ?_)
set_option maxHeartbeats 8000000 in
set_option maxRecDepth 100000 in
theorem paronymref24_Find.calls (k : Nat) (A0 : Option Addr) (c0 : Nat) (l0 : List (List Int)) (A1 : Option Addr) (c1 : Nat) (l1 : List Int) (r : List (S71)) (w : World) (hr0 : Kd.C (Kd.slice 3 (Kd.int .i64)) w A0 l0.length l0) (hc0 : l0.length ≤ c0) (hr1 : Kd.C (Kd.int .i64) w A1 l1.length l1) (hc1 : l1.length ≤ c1) (h : paronymref24_Find.f k l0 l1 = some r) :
    Calls Try.prog 58 #[.slice A0 l0.length c0, .slice A1 l1.length c1] w fun e w' => ∃ v0_ : Value, e = .returned (v0_) ∧ Kd.R k71 71 w' w.heap.size (fun _ => True) v0_ r ∧ Below w.heap.size w w' := by
  have hu71 := Try.underlying71
  have HR0 := Aside0.mk hr0
  have HC0 := Aside0.mk hc0
  clear hr0 hc0
  have HR1 := Aside0.mk hr1
  have HC1 := Aside0.mk hc1
  clear hr1 hc1
  have HB := Aside0.mk (Below.refl w.heap.size w)
  have H : (paronymref24_Find.l0 k l0 l1 ([] : List (S71)) 0) = some r := h
  clear h
  have H' := Aside0.mk H
  clear H
  go_enter Try.func58, Try.ntmps58
  go_wp2
  go_loopg [5, 6] k (fun kq v5 v6 w' => ∃ (x5_1 : List (S71)) (x6_1 : Int), v6 = .int .i64 x6_1 ∧ Aside0 (paronymref24_Find.l0 kq l0 l1 x5_1 x6_1 = some r) ∧ Aside0 (kq ≤ k) ∧ Aside0 (Kd.R k71 71 w' w.heap.size (fun _ => True) v5 x5_1) ∧ Aside0 (Below w.heap.size w w'))
  case atStart => exact ⟨(([] : List (S71))), (0), (by first | rfl | (simp; done) | (simp [*]; done)), H', ⟨Nat.le_refl _⟩, ⟨by first | exact Kd.R_nil _ _ _ _ _ | exact Kd.N_nil _ _ _ _ _ | exact Kd.V_nil _ _ _ _ _ | exact Kd.Q_nil _ _ _ _ _ | exact Kd.S_nil _ _ _ _ _⟩, ⟨by repeat (first | (with_reducible first | exact HB.out | apply below_alloc | apply pw_below_drewN | apply below_drew1) | exact HB.out)⟩⟩
  case round =>
    clear H'
    try clear c1
    try clear p2
    obtain ⟨x5_1, x6_1, rfl, HA, HK1, HO_5, HB⟩ := hrel
    cases gk with
    | zero => exact absurd HA.out (by simp [paronymref24_Find.l0])
    | succ k1 =>
      have H := HA.out
      clear HA
      simp only [paronymref24_Find.l0] at H
      by_cases c3 : x6_1 < (l1.length : Int)
      · rw [if_pos c3] at H
        have c3b0 : decide (x6_1 < (l1.length : Int)) = true := decide_eq_true c3
        clear c3
        have H' := Aside0.mk H
        clear H
        go_wp2
        go_loopg [5, 7] k1 (fun kq v5 v7 w' => ∃ (x5_2 : List (S71)) (x7_2 : Int), v7 = .int .i64 x7_2 ∧ Aside0 (paronymref24_Find.l1 kq l0 l1 x5_2 x6_1 x7_2 = some r) ∧ Aside0 (kq ≤ k1) ∧ Aside0 (Kd.R k71 71 w' w.heap.size (fun _ => True) v5 x5_2) ∧ Aside0 (Below w.heap.size w w'))
        case atStart => exact ⟨(x5_1), (0), (by first | rfl | (simp; done) | (simp [*]; done)), H', ⟨Nat.le_refl _⟩, ⟨by (with_reducible repeat (first | apply Kd.R_alloc | apply Kd.R_drewN | apply Kd.R_drew)); exact HO_5.out⟩, ⟨by repeat (first | (with_reducible first | exact HB.out | apply below_alloc | apply pw_below_drewN | apply below_drew1) | exact HB.out)⟩⟩
        case round =>
          clear H'
          try clear c1
          try clear p2
          try clear c3
          try clear c3b0
          try clear p2
          obtain ⟨x5_2, x7_2, rfl, HA, HK2, HO_5, HB⟩ := hrel
          cases gk with
          | zero => exact absurd HA.out (by simp [paronymref24_Find.l1])
          | succ k2 =>
            have H := HA.out
            clear HA
            simp only [paronymref24_Find.l1] at H
            by_cases c4 : x7_2 < (l0.length : Int)
            · rw [if_pos c4] at H
              have c4b0 : decide (x7_2 < (l0.length : Int)) = true := decide_eq_true c4
              clear c4
              by_cases c5 : 0 ≤ x7_2
              · rw [if_pos c5] at H
                have c5b0 : decide (0 ≤ x7_2) = true := decide_eq_true c5
                clear c5
                replace H := Option.bind_eq_some_iff.mp H
                obtain ⟨t187, A60, H⟩ := H
                replace H : (if t187 = true then (if x5_2.length < 8796093022208 then (paronymref24_Find.l1 k2 l0 l1 (x5_2 ++ [(⟨x7_2, x6_1⟩ : S71)]) x6_1 (wrap64 (x7_2 + 1))) else (none)) else (paronymref24_Find.l1 k2 l0 l1 x5_2 x6_1 (wrap64 (x7_2 + 1)))) = some r := H
                have A6 := Aside0.mk A60
                clear A60
                by_cases c7 : t187 = true
                · subst c7
                  have H1 : (if x5_2.length < 8796093022208 then (paronymref24_Find.l1 k2 l0 l1 (x5_2 ++ [(⟨x7_2, x6_1⟩ : S71)]) x6_1 (wrap64 (x7_2 + 1))) else (none)) = some r := by rw [if_pos rfl] at H; exact H
                  clear H
                  have H := H1
                  clear H1
                  by_cases c8 : x5_2.length < 8796093022208
                  · rw [if_pos c8] at H
                    have LMc8 := Aside0.mk c8
                    clear c8
                    obtain ⟨y188, hy188⟩ : ∃ y_ : List (S71), y_ = (x5_2 ++ [(⟨x7_2, x6_1⟩ : S71)]) := ⟨_, rfl⟩
                    replace H : (paronymref24_Find.l1 k2 l0 l1 y188 x6_1 (wrap64 (x7_2 + 1))) = some r := by first | (rw [hy188]; with_reducible exact H) | (have H2_ := (Option.bind_some _ _).symm.trans H; rw [hy188]; with_reducible exact H2_) | (have H2_ := (Option.bind_some _ _).symm.trans H; with_reducible exact H2_) | with_reducible exact H | (rw [hy188]; exact H) | exact H
                    have Ny188 := Aside0.mk hy188
                    clear hy188
                    have H' := Aside0.mk H
                    clear H
                    have p186 : 0 ≤ (x7_2 : Int) := of_decide_eq_true (by first | (with_reducible assumption) | assumption)
                    have q186 : x7_2 < (l0.length : Int) := of_decide_eq_true (by first | (with_reducible assumption) | assumption)
                    obtain ⟨ad186, A186_0, c186_0, e186, hx186_0, hl186_0, hi186_0⟩ := at_L1 HR0.out x7_2 p186 q186
                    cases e186
                    replace hx186_0 := (HB.out.cell (World.block_lt_of_cell? w _ hx186_0)).trans hx186_0
                    have HR186_0 := Aside0.mk hi186_0
                    have HC186_0 := Aside0.mk hl186_0
                    clear hi186_0 hl186_0
                    replace p186 := eq_true p186
                    replace q186 := eq_true q186
                    go_wp2_with (first | ((with_reducible refine gate_callee (f := 93) rfl ?_); refine goesL_ (some 26) rfl rfl Try.func93 (by kernel_rfl) rfl #[.slice A1 l1.length c1, .slice A186_0 (rd_L1 l0 x7_2).length c186_0, .int .i64 x6_1] rfl (by (try simp only [List.map_toArray, List.map_cons, List.map_nil]); first | done | rfl | (simp only [List.length_drop, List.length_take]; rfl)) ?_; (with_reducible refine (paronymref24_Stands.calls k2 _ _ l1 _ _ (rd_L1 l0 x7_2) x6_1 true _ ?side1 ?side2 ?side3 ?side4 A6.out).mono ?_); (case side1 => repeat (first | exact (Kd.C_below HR1.out HB.out) | (with_reducible refine Kd.C_alloc ?_ _) | (with_reducible refine Kd.C_drewN ?_ _) | (with_reducible refine Kd.C_drew ?_))); (case side2 => exact HC1.out); (case side3 => repeat (first | exact (Kd.C_below HR186_0.out HB.out) | (with_reducible refine Kd.C_alloc ?_ _) | (with_reducible refine Kd.C_drewN ?_ _) | (with_reducible refine Kd.C_drew ?_))); (case side4 => exact HC186_0.out); rintro e w' ⟨rfl, ⟨nd, rfl⟩⟩; refine ⟨_, rfl, ?_⟩) | ((with_reducible refine gate_builtin (b := .append) (xs := #[.tmp 27, .tmp 31]) rfl ?_); at_builtin; refine Kd.R_append k71 (w0 := w) w.heap.size rfl (.tmp 27) (.tmp 31) 68 71 (.agg #[(.int .i64 0), (.int .i64 0)]) 16 rfl Try.underlying68 info71 rfl (by decide) (by omega) u5 x5_2 (⟨x7_2, x6_1⟩ : S71) [.int .i64 x7_2, .int .i64 x6_1] (fun _ => True) (fun _ => False) rfl rfl ?aP (fun _ hk => hk.elim) ?aF ?aO ?aB ?aS ?aL ?_; (case aP => exact k71_mkM _ _ _ (⟨x7_2, x6_1⟩ : S71)); (case aB => exact (by repeat (first | (with_reducible first | exact HB.out | apply below_alloc | apply pw_below_drewN | apply below_drew1) | exact HB.out))); (case aF => exact (fun _ _ => trivial)); (case aO => exact (by (with_reducible repeat (first | apply Kd.R_alloc | apply Kd.R_drewN | apply Kd.R_drew)); exact HO_5.out)); (case aS => exact (below_size (by repeat (first | (with_reducible first | exact HB.out | apply below_alloc | apply pw_below_drewN | apply below_drew1) | exact HB.out)))); (case aL => have := LMc8.out; omega); intro v189 w9 ho hb hg hat; rw [← Ny188.out] at ho; have n0_ := Aside0.mk (hb); have n1_ := Aside0.mk (ho); clear HB; clear HO_5; have HB := n0_; have HO190 := n1_; clear n0_ n1_; clear ho hb hg hat))
                    go_roundg k2
                    case measure => have := HK1.out; have := HK2.out; omega
                    case rel => exact ⟨(y188), (wrap64 (x7_2 + 1)), (by first | rfl | (simp; done) | (simp [*]; done)), H', ⟨by have := HK1.out; have := HK2.out; omega⟩, ⟨by (with_reducible repeat (first | apply Kd.R_alloc | apply Kd.R_drewN | apply Kd.R_drew)); exact HO190.out⟩, ⟨by repeat (first | (with_reducible first | exact HB.out | apply below_alloc | apply pw_below_drewN | apply below_drew1) | exact HB.out)⟩⟩
                  · rw [if_neg c8] at H
                    exact absurd H (by simp)
                · replace c7 := Bool.eq_false_iff.mpr c7
                  subst c7
                  have H1 : (paronymref24_Find.l1 k2 l0 l1 x5_2 x6_1 (wrap64 (x7_2 + 1))) = some r := by rw [if_neg (show ¬ (false = true) by decide)] at H; exact H
                  clear H
                  have H := H1
                  clear H1
                  have H' := Aside0.mk H
                  clear H
                  have p186 : 0 ≤ (x7_2 : Int) := of_decide_eq_true (by first | (with_reducible assumption) | assumption)
                  have q186 : x7_2 < (l0.length : Int) := of_decide_eq_true (by first | (with_reducible assumption) | assumption)
                  obtain ⟨ad186, A186_0, c186_0, e186, hx186_0, hl186_0, hi186_0⟩ := at_L1 HR0.out x7_2 p186 q186
                  cases e186
                  replace hx186_0 := (HB.out.cell (World.block_lt_of_cell? w _ hx186_0)).trans hx186_0
                  have HR186_0 := Aside0.mk hi186_0
                  have HC186_0 := Aside0.mk hl186_0
                  clear hi186_0 hl186_0
                  replace p186 := eq_true p186
                  replace q186 := eq_true q186
                  go_wp2_with (first | ((with_reducible refine gate_callee (f := 93) rfl ?_); refine goesL_ (some 26) rfl rfl Try.func93 (by kernel_rfl) rfl #[.slice A1 l1.length c1, .slice A186_0 (rd_L1 l0 x7_2).length c186_0, .int .i64 x6_1] rfl (by (try simp only [List.map_toArray, List.map_cons, List.map_nil]); first | done | rfl | (simp only [List.length_drop, List.length_take]; rfl)) ?_; (with_reducible refine (paronymref24_Stands.calls k2 _ _ l1 _ _ (rd_L1 l0 x7_2) x6_1 false _ ?side1 ?side2 ?side3 ?side4 A6.out).mono ?_); (case side1 => repeat (first | exact (Kd.C_below HR1.out HB.out) | (with_reducible refine Kd.C_alloc ?_ _) | (with_reducible refine Kd.C_drewN ?_ _) | (with_reducible refine Kd.C_drew ?_))); (case side2 => exact HC1.out); (case side3 => repeat (first | exact (Kd.C_below HR186_0.out HB.out) | (with_reducible refine Kd.C_alloc ?_ _) | (with_reducible refine Kd.C_drewN ?_ _) | (with_reducible refine Kd.C_drew ?_))); (case side4 => exact HC186_0.out); rintro e w' ⟨rfl, ⟨nd, rfl⟩⟩; refine ⟨_, rfl, ?_⟩))
                  go_roundg k2
                  case measure => have := HK1.out; have := HK2.out; omega
                  case rel => exact ⟨(x5_2), (wrap64 (x7_2 + 1)), (by first | rfl | (simp; done) | (simp [*]; done)), H', ⟨by have := HK1.out; have := HK2.out; omega⟩, ⟨by (with_reducible repeat (first | apply Kd.R_alloc | apply Kd.R_drewN | apply Kd.R_drew)); exact HO_5.out⟩, ⟨by repeat (first | (with_reducible first | exact HB.out | apply below_alloc | apply pw_below_drewN | apply below_drew1) | exact HB.out)⟩⟩
              · rw [if_neg c5] at H
                exact absurd H (by simp)
            · rw [if_neg c4] at H
              have c4b0 : decide (x7_2 < (l0.length : Int)) = false := decide_eq_false c4
              clear c4
              have H' := Aside0.mk H
              clear H
              go_wp2
              go_roundg k2
              case measure => have := HK1.out; have := HK2.out; omega
              case rel => exact ⟨(x5_2), (wrap64 (x6_1 + 1)), (by first | rfl | (simp; done) | (simp [*]; done)), H', ⟨by have := HK1.out; have := HK2.out; omega⟩, ⟨by (with_reducible repeat (first | apply Kd.R_alloc | apply Kd.R_drewN | apply Kd.R_drew)); exact HO_5.out⟩, ⟨by repeat (first | (with_reducible first | exact HB.out | apply below_alloc | apply pw_below_drewN | apply below_drew1) | exact HB.out)⟩⟩
      · rw [if_neg c3] at H
        have c3b0 : decide (x6_1 < (l1.length : Int)) = false := decide_eq_false c3
        clear c3
        obtain rfl := Option.some.inj H
        go_wp2
        go_ret
        exact ⟨_, by first | rfl | (simp [errW_none, errW_some] <;> rfl) | (simp [*, errW_none, errW_some] <;> rfl), by (with_reducible repeat (first | apply Kd.R_alloc | apply Kd.R_drewN | apply Kd.R_drew)); exact HO_5.out, by repeat (first | (with_reducible first | exact HB.out | apply below_alloc | apply pw_below_drewN | apply below_drew1) | exact HB.out)⟩

end Go.Proofs.Ytgfmplhpoblleaa.PFB
end
section
-- printed by the kit's print.py over several roots (printroots.sh): no hand has typed this
namespace Go.Proofs.Ytgfmplhpoblleaa.PFB
open Go.RowKit Go.Proofs.YtgfmplhpoblleaaW.PrintWords Go.Proofs.YtgfmplhpoblleaaW.PrintLast Go.Proofs.YtgfmplhpoblleaaW.PrintMore Go.Proofs.Ytgfmplhpoblleaa.PRank
attribute [local go_sem] max2_int min2_int max_two min_two max_three min_three max_four min_four   -- for this text's walks alone
set_option linter.unusedVariables false
set_option linter.unusedSimpArgs false

theorem eqA71 (d : Nat) (w : World) (x0 y0 : Int) (x1 y1 : Int) :
    (Op.equalIn (d + 2) 71 (.agg #[.int .i64 x0, .int .i64 x1]) (.agg #[.int .i64 y0, .int .i64 y1])).run Try.prog w = .ok (x0 == y0 && (x1 == y1)) w := by
  refine eqA_of Try.underlying71 (by kernel_rfl) ?_
  refine eqf_cons (by rfl) (by go_simp; rfl) (by go_simp; rfl) (by go_simp) ?_
  exact eqf_last (by rfl) (by go_simp; rfl) (by go_simp; rfl) (by go_simp)
end Go.Proofs.Ytgfmplhpoblleaa.PFB
end
section
-- printed by the kit's print.py over several roots (printroots.sh): no hand has typed this
namespace Go.Proofs.Ytgfmplhpoblleaa.PFB
open Go.RowKit Go.Proofs.YtgfmplhpoblleaaW.PrintWords Go.Proofs.YtgfmplhpoblleaaW.PrintLast Go.Proofs.YtgfmplhpoblleaaW.PrintMore Go.Proofs.Ytgfmplhpoblleaa.PRank
attribute [local go_sem] max2_int min2_int max_two min_two max_three min_three max_four min_four   -- for this text's walks alone
set_option linter.unusedVariables false
set_option linter.unusedSimpArgs false

attribute [local go_sem high] eqA71
/-! ### paronymref24_Same: function 57 -/
def paronymref24_Same.l0 : Nat → List (S71) → List (S71) → Int → Option (Bool)
  | 0, _, _, _ => none
  | k + 1, x0, x1, x5 => if x5 < (x0.length : Int) then (if 0 ≤ x5 then (if x5 < (x1.length : Int) then (if (!(((rd_T71 x0 x5).f0) == ((rd_T71 x1 x5).f0)) || (!(((rd_T71 x0 x5).f1) == ((rd_T71 x1 x5).f1)))) = true then (some false) else (paronymref24_Same.l0 k x0 x1 (wrap64 (x5 + 1)))) else (none)) else (none)) else (some true)
def paronymref24_Same.f (k : Nat) (l0 : List (S71)) (l1 : List (S71)) : Option (Bool) := if (l0.length : Int) = (l1.length : Int) then (paronymref24_Same.l0 k l0 l1 0) else (some false)
theorem paronymref24_Same.mono_l : ∀ k, (∀ y0 y1 y2, LeO (paronymref24_Same.l0 k y0 y1 y2) (paronymref24_Same.l0 (k + 1) y0 y1 y2))
  | 0 => fun _ _ _ r h => by simp [paronymref24_Same.l0] at h
  | k + 1 => by
    have ih0 := paronymref24_Same.mono_l k
    · intro y0 y1 y2
      unfold paronymref24_Same.l0
      repeat' first
      | (with_reducible exact ih0 _ _ _)
      | (with_reducible exact LeO.refl _)
      | (with_reducible exact LeO.none _)
      | (with_reducible refine LeO.ite ?_ ?_)
      | (with_reducible refine LeO.bind ?_ (fun _ => ?_))
      | exact ih0 _ _ _
      | exact LeO.none _
      | refine LeO.ite ?_ ?_
      | refine LeO.bind ?_ (fun _ => ?_)
theorem paronymref24_Same.mono : ∀ a0 a1 k, LeO (paronymref24_Same.f k a0 a1) (paronymref24_Same.f (k + 1) a0 a1) := by
  intro a0 a1 k
  have ih0 := paronymref24_Same.mono_l k
  unfold paronymref24_Same.f
  repeat' first
      | (with_reducible exact ih0 _ _ _)
      | (with_reducible exact LeO.refl _)
      | (with_reducible exact LeO.none _)
      | (with_reducible refine LeO.ite ?_ ?_)
      | (with_reducible refine LeO.bind ?_ (fun _ => ?_))
      | exact ih0 _ _ _
      | exact LeO.none _
      | refine LeO.ite ?_ ?_
      | refine LeO.bind ?_ (fun _ => ?_)
set_option maxHeartbeats 8000000 in
set_option maxRecDepth 100000 in
theorem paronymref24_Same.calls (k : Nat) (A0 : Option Addr) (c0 : Nat) (l0 : List (S71)) (A1 : Option Addr) (c1 : Nat) (l1 : List (S71)) (r : Bool) (w : World) (hr0 : Kd.C k71 w A0 l0.length l0) (hc0 : l0.length ≤ c0) (hr1 : Kd.C k71 w A1 l1.length l1) (hc1 : l1.length ≤ c1) (h : paronymref24_Same.f k l0 l1 = some r) :
    Calls Try.prog 57 #[.slice A0 l0.length c0, .slice A1 l1.length c1] w fun e w' => e = .returned (.bool r) ∧ Drawn0 w w' := by
  have hu71 := Try.underlying71
  have HR0 := Aside0.mk hr0
  have HC0 := Aside0.mk hc0
  clear hr0 hc0
  have HR1 := Aside0.mk hr1
  have HC1 := Aside0.mk hc1
  clear hr1 hc1
  have H : (if (l0.length : Int) = (l1.length : Int) then (paronymref24_Same.l0 k l0 l1 0) else (some false)) = some r := h
  clear h
  by_cases c3 : (l0.length : Int) = (l1.length : Int)
  · rw [if_pos c3] at H
    have c3b0 : ((l0.length : Int) == (l1.length : Int)) = true := beq_iff_eq.mpr c3
    have c3b1 : ((l0.length : Int) != (l1.length : Int)) = false := bne_eq_false_iff_eq.mpr c3
    have c3b2 : (l0.length == l1.length) = true := by first | simpa using c3 | (simp at c3 ⊢; omega)
    clear c3
    have H' := Aside0.mk H
    clear H
    go_enter Try.func57, Try.ntmps57
    go_wp2
    repeat (go_quiet (fail); try go_wp2)
    go_loopg [5] k (fun kq v5 w' => ∃ (x5_1 : Int), v5 = .int .i64 x5_1 ∧ Aside0 (paronymref24_Same.l0 kq l0 l1 x5_1 = some r) ∧ Aside0 (kq ≤ k) ∧ Drawn0 w w')
    case atStart => exact ⟨(0), (by first | rfl | (simp; done) | (simp [*]; done)), H', ⟨Nat.le_refl _⟩, by repeat (first | exact Drawn0.refl _ | apply Drawn0.step)⟩
    case round =>
      clear H'
      try clear c1
      try clear p2
      try clear c3
      try clear c3b0
      try clear c3b1
      try clear c3b2
      obtain ⟨x5_1, rfl, HA, HK1, ⟨m1, rfl⟩⟩ := hrel
      cases gk with
      | zero => exact absurd HA.out (by simp [paronymref24_Same.l0])
      | succ k1 =>
        have H := HA.out
        clear HA
        simp only [paronymref24_Same.l0] at H
        by_cases c4 : x5_1 < (l0.length : Int)
        · rw [if_pos c4] at H
          have c4b0 : decide (x5_1 < (l0.length : Int)) = true := decide_eq_true c4
          clear c4
          by_cases c5 : 0 ≤ x5_1
          · rw [if_pos c5] at H
            have c5b0 : decide (0 ≤ x5_1) = true := decide_eq_true c5
            clear c5
            by_cases c6 : x5_1 < (l1.length : Int)
            · rw [if_pos c6] at H
              have c6b0 : decide (x5_1 < (l1.length : Int)) = true := decide_eq_true c6
              clear c6
              by_cases c7 : (!(((rd_T71 l0 x5_1).f0) == ((rd_T71 l1 x5_1).f0)) || (!(((rd_T71 l0 x5_1).f1) == ((rd_T71 l1 x5_1).f1)))) = true
              · rw [if_pos c7] at H
                have c7b0 : (!(((rd_T71 l0 x5_1).f0) == ((rd_T71 l1 x5_1).f0)) || (!(((rd_T71 l0 x5_1).f1) == ((rd_T71 l1 x5_1).f1)))) = true := c7
                clear c7
                obtain rfl := Option.some.inj H
                have p191 : 0 ≤ (x5_1 : Int) := of_decide_eq_true (by first | (with_reducible assumption) | assumption)
                have q191 : x5_1 < (l0.length : Int) := of_decide_eq_true (by first | (with_reducible assumption) | assumption)
                obtain ⟨ad191, e191, hx191_0, hx191_1⟩ := at_T71 HR0.out x5_1 p191 q191
                cases e191
                replace p191 := eq_true p191
                replace q191 := eq_true q191
                have p192 : 0 ≤ (x5_1 : Int) := of_decide_eq_true (by first | (with_reducible assumption) | assumption)
                have q192 : x5_1 < (l1.length : Int) := of_decide_eq_true (by first | (with_reducible assumption) | assumption)
                obtain ⟨ad192, e192, hx192_0, hx192_1⟩ := at_T71 HR1.out x5_1 p192 q192
                cases e192
                replace p192 := eq_true p192
                replace q192 := eq_true q192
                go_wp2
                repeat (go_quiet (fail); try go_wp2)
                go_ret
                exact ⟨by first | rfl | (simp; done) | (simp [*]; done), by repeat (first | exact Drawn0.refl _ | apply Drawn0.step)⟩
              · rw [if_neg c7] at H
                have c7b0 : (!(((rd_T71 l0 x5_1).f0) == ((rd_T71 l1 x5_1).f0)) || (!(((rd_T71 l0 x5_1).f1) == ((rd_T71 l1 x5_1).f1)))) = false := by simpa using c7
                clear c7
                have H' := Aside0.mk H
                clear H
                have p191 : 0 ≤ (x5_1 : Int) := of_decide_eq_true (by first | (with_reducible assumption) | assumption)
                have q191 : x5_1 < (l0.length : Int) := of_decide_eq_true (by first | (with_reducible assumption) | assumption)
                obtain ⟨ad191, e191, hx191_0, hx191_1⟩ := at_T71 HR0.out x5_1 p191 q191
                cases e191
                replace p191 := eq_true p191
                replace q191 := eq_true q191
                have p192 : 0 ≤ (x5_1 : Int) := of_decide_eq_true (by first | (with_reducible assumption) | assumption)
                have q192 : x5_1 < (l1.length : Int) := of_decide_eq_true (by first | (with_reducible assumption) | assumption)
                obtain ⟨ad192, e192, hx192_0, hx192_1⟩ := at_T71 HR1.out x5_1 p192 q192
                cases e192
                replace p192 := eq_true p192
                replace q192 := eq_true q192
                go_wp2
                repeat (go_quiet (fail); try go_wp2)
                go_roundg k1
                case measure => have := HK1.out; omega
                case rel => exact ⟨(wrap64 (x5_1 + 1)), (by first | rfl | (simp; done) | (simp [*]; done)), H', ⟨by have := HK1.out; omega⟩, by repeat (first | exact Drawn0.refl _ | apply Drawn0.step)⟩
            · rw [if_neg c6] at H
              exact absurd H (by simp)
          · rw [if_neg c5] at H
            exact absurd H (by simp)
        · rw [if_neg c4] at H
          have c4b0 : decide (x5_1 < (l0.length : Int)) = false := decide_eq_false c4
          clear c4
          obtain rfl := Option.some.inj H
          go_wp2
          repeat (go_quiet (fail); try go_wp2)
          go_ret
          exact ⟨by first | rfl | (simp; done) | (simp [*]; done), by repeat (first | exact Drawn0.refl _ | apply Drawn0.step)⟩
  · rw [if_neg c3] at H
    have c3b0 : ((l0.length : Int) == (l1.length : Int)) = false := beq_eq_false_iff_ne.mpr c3
    have c3b1 : ((l0.length : Int) != (l1.length : Int)) = true := bne_iff_ne.mpr c3
    have c3b2 : (l0.length == l1.length) = false := by first | simpa using c3 | (simp at c3 ⊢; omega)
    obtain rfl := Option.some.inj H
    go_enter Try.func57, Try.ntmps57
    go_wp2
    repeat (go_quiet (fail); try go_wp2)
    go_ret
    exact ⟨by first | rfl | (simp; done) | (simp [*]; done), by repeat (first | exact Drawn0.refl _ | apply Drawn0.step)⟩

/-! ### paronymref24_Contains: function 61 -/
def paronymref24_Contains.l0 : Nat → List Int → List Int → Int → Option (Bool)
  | 0, _, _, _ => none
  | k + 1, x0, x1, x5 => if x5 ≤ (x0.length : Int) then ((paronymref24_Stands.f k x0 x1 x5).bind fun t193 => (if t193 = true then (some true) else (paronymref24_Contains.l0 k x0 x1 (wrap64 (x5 + 1))))) else (some false)
def paronymref24_Contains.f (k : Nat) (l0 : List Int) (l1 : List Int) : Option (Bool) := paronymref24_Contains.l0 k l0 l1 0
theorem paronymref24_Contains.mono_l : ∀ k, (∀ y0 y1 y2, LeO (paronymref24_Contains.l0 k y0 y1 y2) (paronymref24_Contains.l0 (k + 1) y0 y1 y2))
  | 0 => fun _ _ _ r h => by simp [paronymref24_Contains.l0] at h
  | k + 1 => by
    have ih0 := paronymref24_Contains.mono_l k
    · intro y0 y1 y2
      unfold paronymref24_Contains.l0
      repeat' first
      | (with_reducible exact ih0 _ _ _)
      | (with_reducible exact paronymref24_Stands.mono _ _ _ _)
      | (with_reducible exact LeO.refl _)
      | (with_reducible exact LeO.none _)
      | (with_reducible refine LeO.ite ?_ ?_)
      | (with_reducible refine LeO.bind ?_ (fun _ => ?_))
      | exact ih0 _ _ _
      | exact paronymref24_Stands.mono _ _ _ _
      | exact LeO.none _
      | refine LeO.ite ?_ ?_
      | refine LeO.bind ?_ (fun _ => ?_)
theorem paronymref24_Contains.mono : ∀ a0 a1 k, LeO (paronymref24_Contains.f k a0 a1) (paronymref24_Contains.f (k + 1) a0 a1) := by
  intro a0 a1 k
  have ih0 := paronymref24_Contains.mono_l k
  unfold paronymref24_Contains.f
  repeat' first
      | (with_reducible exact ih0 _ _ _)
      | (with_reducible exact paronymref24_Stands.mono _ _ _ _)
      | (with_reducible exact LeO.refl _)
      | (with_reducible exact LeO.none _)
      | (with_reducible refine LeO.ite ?_ ?_)
      | (with_reducible refine LeO.bind ?_ (fun _ => ?_))
      | exact ih0 _ _ _
      | exact paronymref24_Stands.mono _ _ _ _
      | exact LeO.none _
      | refine LeO.ite ?_ ?_
      | refine LeO.bind ?_ (fun _ => ?_)
set_option maxHeartbeats 8000000 in
set_option maxRecDepth 100000 in
theorem paronymref24_Contains.calls (k : Nat) (A0 : Option Addr) (c0 : Nat) (l0 : List Int) (A1 : Option Addr) (c1 : Nat) (l1 : List Int) (r : Bool) (w : World) (hr0 : Kd.C (Kd.int .i64) w A0 l0.length l0) (hc0 : l0.length ≤ c0) (hr1 : Kd.C (Kd.int .i64) w A1 l1.length l1) (hc1 : l1.length ≤ c1) (h : paronymref24_Contains.f k l0 l1 = some r) :
    Calls Try.prog 61 #[.slice A0 l0.length c0, .slice A1 l1.length c1] w fun e w' => e = .returned (.bool r) ∧ Drawn0 w w' := by
  have HR0 := Aside0.mk hr0
  have HC0 := Aside0.mk hc0
  clear hr0 hc0
  have HR1 := Aside0.mk hr1
  have HC1 := Aside0.mk hc1
  clear hr1 hc1
  have H : (paronymref24_Contains.l0 k l0 l1 0) = some r := h
  clear h
  have H' := Aside0.mk H
  clear H
  go_enter Try.func61, Try.ntmps61
  go_wp2
  go_loopg [5] k (fun kq v5 w' => ∃ (x5_1 : Int), v5 = .int .i64 x5_1 ∧ Aside0 (paronymref24_Contains.l0 kq l0 l1 x5_1 = some r) ∧ Aside0 (kq ≤ k) ∧ Drawn0 w w')
  case atStart => exact ⟨(0), (by first | rfl | (simp; done) | (simp [*]; done)), H', ⟨Nat.le_refl _⟩, by repeat (first | exact Drawn0.refl _ | apply Drawn0.step)⟩
  case round =>
    clear H'
    try clear c1
    try clear p2
    obtain ⟨x5_1, rfl, HA, HK1, ⟨m1, rfl⟩⟩ := hrel
    cases gk with
    | zero => exact absurd HA.out (by simp [paronymref24_Contains.l0])
    | succ k1 =>
      have H := HA.out
      clear HA
      simp only [paronymref24_Contains.l0] at H
      by_cases c3 : x5_1 ≤ (l0.length : Int)
      · rw [if_pos c3] at H
        have c3b0 : decide (x5_1 ≤ (l0.length : Int)) = true := decide_eq_true c3
        clear c3
        replace H := Option.bind_eq_some_iff.mp H
        obtain ⟨t193, A40, H⟩ := H
        replace H : (if t193 = true then (some true) else (paronymref24_Contains.l0 k1 l0 l1 (wrap64 (x5_1 + 1)))) = some r := H
        have A4 := Aside0.mk A40
        clear A40
        by_cases c5 : t193 = true
        · subst c5
          have H1 : (some true) = some r := by rw [if_pos rfl] at H; exact H
          clear H
          have H := H1
          clear H1
          obtain rfl := Option.some.inj H
          go_wp2_with (first | ((with_reducible refine gate_callee (f := 93) rfl ?_); refine goesL_ (some 15) rfl rfl Try.func93 (by kernel_rfl) rfl #[.slice A0 l0.length c0, .slice A1 l1.length c1, .int .i64 x5_1] rfl (by (try simp only [List.map_toArray, List.map_cons, List.map_nil]); first | done | rfl | (simp only [List.length_drop, List.length_take]; rfl)) ?_; (with_reducible refine (paronymref24_Stands.calls k1 _ _ l0 _ _ l1 x5_1 true _ ?side1 ?side2 ?side3 ?side4 A4.out).mono ?_); (case side1 => repeat (first | exact HR0.out | (with_reducible refine Kd.C_alloc ?_ _) | (with_reducible refine Kd.C_drewN ?_ _) | (with_reducible refine Kd.C_drew ?_))); (case side2 => exact HC0.out); (case side3 => repeat (first | exact HR1.out | (with_reducible refine Kd.C_alloc ?_ _) | (with_reducible refine Kd.C_drewN ?_ _) | (with_reducible refine Kd.C_drew ?_))); (case side4 => exact HC1.out); rintro e w' ⟨rfl, ⟨nd, rfl⟩⟩; refine ⟨_, rfl, ?_⟩))
          go_ret
          exact ⟨by first | rfl | (simp; done) | (simp [*]; done), by repeat (first | exact Drawn0.refl _ | apply Drawn0.step)⟩
        · replace c5 := Bool.eq_false_iff.mpr c5
          subst c5
          have H1 : (paronymref24_Contains.l0 k1 l0 l1 (wrap64 (x5_1 + 1))) = some r := by rw [if_neg (show ¬ (false = true) by decide)] at H; exact H
          clear H
          have H := H1
          clear H1
          have H' := Aside0.mk H
          clear H
          go_wp2_with (first | ((with_reducible refine gate_callee (f := 93) rfl ?_); refine goesL_ (some 15) rfl rfl Try.func93 (by kernel_rfl) rfl #[.slice A0 l0.length c0, .slice A1 l1.length c1, .int .i64 x5_1] rfl (by (try simp only [List.map_toArray, List.map_cons, List.map_nil]); first | done | rfl | (simp only [List.length_drop, List.length_take]; rfl)) ?_; (with_reducible refine (paronymref24_Stands.calls k1 _ _ l0 _ _ l1 x5_1 false _ ?side1 ?side2 ?side3 ?side4 A4.out).mono ?_); (case side1 => repeat (first | exact HR0.out | (with_reducible refine Kd.C_alloc ?_ _) | (with_reducible refine Kd.C_drewN ?_ _) | (with_reducible refine Kd.C_drew ?_))); (case side2 => exact HC0.out); (case side3 => repeat (first | exact HR1.out | (with_reducible refine Kd.C_alloc ?_ _) | (with_reducible refine Kd.C_drewN ?_ _) | (with_reducible refine Kd.C_drew ?_))); (case side4 => exact HC1.out); rintro e w' ⟨rfl, ⟨nd, rfl⟩⟩; refine ⟨_, rfl, ?_⟩))
          go_roundg k1
          case measure => have := HK1.out; omega
          case rel => exact ⟨(wrap64 (x5_1 + 1)), (by first | rfl | (simp; done) | (simp [*]; done)), H', ⟨by have := HK1.out; omega⟩, by repeat (first | exact Drawn0.refl _ | apply Drawn0.step)⟩
      · rw [if_neg c3] at H
        have c3b0 : decide (x5_1 ≤ (l0.length : Int)) = false := decide_eq_false c3
        clear c3
        obtain rfl := Option.some.inj H
        go_wp2
        go_ret
        exact ⟨by first | rfl | (simp; done) | (simp [*]; done), by repeat (first | exact Drawn0.refl _ | apply Drawn0.step)⟩

end Go.Proofs.Ytgfmplhpoblleaa.PFB
end
section
/- match: a matcher's memory; Read, Taken, Reset. -/
namespace Go.Proofs.Ytgfmplhpoblleaa.FailW
open Go.RowKit Go.Shelf Go.Lib Go.Proofs Go.Proofs.YtgfmplhpoblleaaW.PrintWords Go.Proofs.YtgfmplhpoblleaaW.PrintLast Go.Proofs.YtgfmplhpoblleaaW.PrintMore Go.Proofs.Ytgfmplhpoblleaa.PRank Go.Proofs.Ytgfmplhpoblleaa.PFB Go.Proofs.Ytgfmplhpoblleaa.RankW Go.Proofs.Ytgfmplhpoblleaa.SortOwn Go.Proofs.Ytgfmplhpoblleaa
open Go.Proofs.Ytgfmplhpoblleaa.Cmps hiding dedup
set_option linter.unusedVariables false
set_option linter.unusedSimpArgs false

/-- The lengths of patterns. -/
def lens (l : List (List Int)) : List Int := l.map fun u => (u.length : Int)
/-- A matcher at block g: its links were made in w0; where it stands, what it has read, and by how many transitions. -/
structure Mt (w0 w : World) (g : Nat) (p t : Addr) (l : List (List Int)) (s : St) (vl : Value) (ls : List Int) (at_ rd tk : Int) : Prop where
  made : Made w0 l t p s
  bw : Go.RowKit.Below w0.heap.size w0 w
  blk : w.heap[g]? = some (.cells #[.pointer (some p), vl, .int .i64 at_, .int .i64 rd, .int .i64 tk] 111 (0, 0))
  hg : w0.heap.size ≤ g
  ln : w.ownsRow w0.heap.size 3 1 vl ls.length (encI ls)
section
variable {w0 w w1 : World} {g : Nat} {p t : Addr} {l : List (List Int)} {s : St} {vl : Value} {ls : List Int} {at_ rd tk : Int}
theorem Mt.c0 (h : Mt w0 w g p t l s vl ls at_ rd tk) : w.cell? ⟨g, 0, none⟩ = some (.pointer (some p)) := by rw [blk_cell h.blk]; rfl
theorem Mt.c1 (h : Mt w0 w g p t l s vl ls at_ rd tk) : w.cell? ⟨g, 1, none⟩ = some vl := by rw [blk_cell h.blk]; rfl
theorem Mt.c2 (h : Mt w0 w g p t l s vl ls at_ rd tk) : w.cell? ⟨g, 2, none⟩ = some (.int .i64 at_) := by rw [blk_cell h.blk]; rfl
theorem Mt.c3 (h : Mt w0 w g p t l s vl ls at_ rd tk) : w.cell? ⟨g, 3, none⟩ = some (.int .i64 rd) := by rw [blk_cell h.blk]; rfl
theorem Mt.c4 (h : Mt w0 w g p t l s vl ls at_ rd tk) : w.cell? ⟨g, 4, none⟩ = some (.int .i64 tk) := by rw [blk_cell h.blk]; rfl
theorem Mt.fz (h : Mt w0 w g p t l s vl ls at_ rd tk) (q : Nat) : w.frozen? ⟨g, q, none⟩ = false := blk_frozen h.blk q
theorem Mt.now (h : Mt w0 w g p t l s vl ls at_ rd tk) : Made w l t p s := h.made.below h.bw
/-- What else grows. -/
theorem Mt.other (h : Mt w0 w g p t l s vl ls at_ rd tk) {row : Option Nat} (hg : w.grownBy w1 row) (hr : ∀ r, row = some r → w0.heap.size ≤ r ∧ r ≠ g ∧ vl.ownBlock ≠ some r) : Mt w0 w1 g p t l s vl ls at_ rd tk := by
  refine ⟨h.made, ⟨hg.os.trans h.bw.os, hg.tape.trans h.bw.tape, hg.output.trans h.bw.output, Nat.le_trans h.bw.size hg.size, fun k hk => (hg.block k (Nat.lt_of_lt_of_le hk h.bw.size) (fun e => by have := (hr k e.symm).1; omega)).trans (h.bw.block k hk)⟩, blk_grown h.blk hg (fun e => (hr g e.symm).2.1 rfl), h.hg, own_other h.ln hg ?_⟩
  cases hv : vl.ownBlock with
  | none => exact .inl rfl
  | some k => exact .inr fun e => (hr k e.symm).2.2 hv
theorem Mt.below (h : Mt w0 w g p t l s vl ls at_ rd tk) (hg : Go.RowKit.Below w.heap.size w w1) : Mt w0 w1 g p t l s vl ls at_ rd tk := h.other (grown_of_below hg none) (fun r e => by cases e)
theorem Mt.grows (h : Mt w0 w g p t l s vl ls at_ rd tk) (hg : Grows w w1) : Mt w0 w1 g p t l s vl ls at_ rd tk := h.below hg.below
theorem Mt.lnb (h : Mt w0 w g p t l s vl ls at_ rd tk) : vl.ownBlock = none ∨ vl.ownBlock ≠ some g := own_ne_blk h.ln h.blk (by decide)
/-- One of its own cells is written. -/
theorem Mt.put (h : Mt w0 w g p t l s vl ls at_ rd tk) (q : Nat) (v : Value) {at2 rd2 tk2 : Int} (e : (#[.pointer (some p), vl, .int .i64 at_, .int .i64 rd, .int .i64 tk] : Array Value).setIfInBounds q v = #[.pointer (some p), vl, .int .i64 at2, .int .i64 rd2, .int .i64 tk2]) :
    Mt w0 (w.setCell ⟨g, q, none⟩ v) g p t l s vl ls at2 rd2 tk2 := by
  have g2 := grownBy_set w ⟨g, q, none⟩ v
  refine ⟨h.made, h.bw.setCell (p := ⟨g, q, none⟩) h.hg _, ?_, h.hg, own_other h.ln g2 h.lnb⟩
  have := blk_set h.blk q v
  rw [e] at this
  exact this
theorem Mt.sat (h : Mt w0 w g p t l s vl ls at_ rd tk) (v : Int) : Mt w0 (w.setCell ⟨g, 2, none⟩ (.int .i64 v)) g p t l s vl ls v rd tk := h.put 2 _ rfl
theorem Mt.srd (h : Mt w0 w g p t l s vl ls at_ rd tk) (v : Int) : Mt w0 (w.setCell ⟨g, 3, none⟩ (.int .i64 v)) g p t l s vl ls at_ v tk := h.put 3 _ rfl
theorem Mt.stk (h : Mt w0 w g p t l s vl ls at_ rd tk) (v : Int) : Mt w0 (w.setCell ⟨g, 4, none⟩ (.int .i64 v)) g p t l s vl ls at_ rd v := h.put 4 _ rfl
theorem Mt.blk1 (h : Mt w0 w g p t l s vl ls at_ rd tk) (hg : w.grownBy w1 vl.ownBlock) : w1.heap[g]? = some (.cells #[.pointer (some p), vl, .int .i64 at_, .int .i64 rd, .int .i64 tk] 111 (0, 0)) := blk_grown h.blk hg (fun e => by
    rcases h.lnb with h1 | h1
    · rw [h1] at e; cases e
    · exact h1 e.symm)
/-- The lengths' row has been put anew. -/
theorem Mt.setLn (h : Mt w0 w g p t l s vl ls at_ rd tk) (v1 : Value) (ls1 : List Int) (hg : w.grownBy w1 vl.ownBlock) (ho : w1.ownsRow w0.heap.size 3 1 v1 ls1.length (encI ls1)) : Mt w0 (w1.setCell ⟨g, 1, none⟩ v1) g p t l s v1 ls1 at_ rd tk := by
  have b1 := blk_grown h.blk hg (fun e => by
    rcases h.lnb with h1 | h1
    · rw [h1] at e; cases e
    · exact h1 e.symm)
  have hb1 : Go.RowKit.Below w0.heap.size w0 w1 := ⟨hg.os.trans h.bw.os, hg.tape.trans h.bw.tape, hg.output.trans h.bw.output, Nat.le_trans h.bw.size hg.size, fun k hk => (hg.block k (Nat.lt_of_lt_of_le hk h.bw.size) (fun e => by have := own_base h.ln k e.symm; omega)).trans (h.bw.block k hk)⟩
  refine ⟨h.made, hb1.setCell (p := ⟨g, 1, none⟩) h.hg _, ?_, h.hg, own_other ho (grownBy_set w1 ⟨g, 1, none⟩ v1) (own_ne_blk ho b1 (by decide))⟩
  have := blk_set b1 1 v1
  simpa using this
end
set_option maxRecDepth 100000 in
theorem read_calls {w0 w : World} {g : Nat} {p t : Addr} {l : List (List Int)} {s : St} {vl : Value} {ls : List Int} {at_ rd tk : Int} (h : Mt w0 w g p t l s vl ls at_ rd tk) :
    Calls Try.prog 54 #[.pointer (some ⟨g, 0, none⟩)] w fun e w' => e = .returned (.int .i64 rd) ∧ w' = w := by
  have c3 := h.c3
  clear h
  go_enter Try.func54, Try.ntmps54
  go_wp2
  go_ret
  exact ⟨rfl, rfl⟩
set_option maxRecDepth 100000 in
theorem taken_calls {w0 w : World} {g : Nat} {p t : Addr} {l : List (List Int)} {s : St} {vl : Value} {ls : List Int} {at_ rd tk : Int} (h : Mt w0 w g p t l s vl ls at_ rd tk) :
    Calls Try.prog 56 #[.pointer (some ⟨g, 0, none⟩)] w fun e w' => e = .returned (.int .i64 tk) ∧ w' = w := by
  have c4 := h.c4
  clear h
  go_enter Try.func56, Try.ntmps56
  go_wp2
  go_ret
  exact ⟨rfl, rfl⟩
set_option maxHeartbeats 2000000 in
set_option maxRecDepth 100000 in
theorem reset_calls {w0 w : World} {g : Nat} {p t : Addr} {l : List (List Int)} {s : St} {vl : Value} {ls : List Int} {at_ rd tk : Int} (h : Mt w0 w g p t l s vl ls at_ rd tk) :
    Calls Try.prog 59 #[.pointer (some ⟨g, 0, none⟩)] w fun e w' => e = .returned (.tuple #[]) ∧ Mt w0 w' g p t l s vl ls 0 0 0 ∧ w.grownBy w' (some g) := by
  have f2 := h.fz 2
  have f3 := h.fz 3
  have f4 := h.fz 4
  have H := Aside0.mk h
  have c2 := h.c2
  have c3 := h.c3
  have c4 := h.c4
  clear h
  go_enter Try.func59, Try.ntmps59
  go_wp2
  go_end0
  refine ⟨rfl, ((H.out.sat 0).srd 0).stk 0, ?_⟩
  exact ((grownBy_set w ⟨g, 2, none⟩ _).trans (grownBy_set _ ⟨g, 3, none⟩ _)).trans (grownBy_set _ ⟨g, 4, none⟩ _)
/-! ### New -/
theorem lens_snoc (l : List (List Int)) (u : List Int) : lens (l ++ [u]) = lens l ++ [(u.length : Int)] := by simp [lens]
set_option maxHeartbeats 8000000 in
set_option maxRecDepth 100000 in
theorem mnew_calls (A : Option Addr) (c : Nat) (l : List (List Int)) (w : World) (hC : Kd.C kRows w A l.length l) (hl : In 20 l) (he : l.any (·.isEmpty) = false) {s : St} (hs : linksF (trieOf l) = some s) :
    Calls Try.prog 50 #[.slice A l.length c] w fun e w' => ∃ (w0 : World) (g : Nat), e = .returned (.tuple #[.pointer (some ⟨g, 0, none⟩), .int .i64 0]) ∧ (∃ (p t : Addr) (vl : Value), Mt w0 w' g p t l s vl (lens l) 0 0 0) ∧ Go.RowKit.Below w.heap.size w w' ∧ w.heap.size ≤ w0.heap.size := by
  have HC := Aside0.mk hC
  have HI := Aside0.mk (And.intro hl (And.intro he hs))
  clear hC hl he hs
  go_enter Try.func50, Try.ntmps50
  go_wp2_with (first
    | (go_at_call 36; go_loud (refine (new_calls A c l _ HC.out (by have := HI.out.1.len; omega) (by have := HI.out.1.bnd.2; omega) HI.out.2.1).mono ?_); rintro e w4 ⟨gt, rfl, hT, hb⟩; have HT := Aside0.mk (And.intro hT hb); clear hT hb)
    | (go_at_call 37; go_loud (refine (fnew_calls _ ⟨gt, 0, none⟩ (trieOf l) (textsOf l) s HT.out.1 (kl_trie HI.out.1).1 (kl_trie HI.out.1).2.1 (by have := (kl_trie HI.out.1).2.2.1; omega) HI.out.2.2).mono ?_); rintro e w5 ⟨p, od', rfl, h1, h2, h3, hb⟩; have HM := Aside0.mk (And.intro h1 (And.intro hb (HT.out.2.trans (hb.mono HT.out.2.size)))); clear h1 h2 h3 hb))
  obtain ⟨W1, hW1⟩ : ∃ W1, W1 = w5.alloc (.cells #[.pointer (some ⟨p, 0, none⟩), .slice none 0 0, .int .i64 0, .int .i64 0, .int .i64 0] 111) := ⟨_, rfl⟩
  rw [← hW1]
  have hfin : LFin (trieOf l) (textsOf l) s := by
    obtain ⟨s', h1, h2⟩ := links_ok (kl_trie HI.out.1).1
    rw [HI.out.2.2] at h1
    obtain rfl := Option.some.inj h1
    exact h2
  have hM0 : Mt w5 W1 w5.heap.size ⟨p, 0, none⟩ ⟨gt, 0, none⟩ l s (.slice none 0 0) [] 0 0 0 := by
    refine ⟨⟨HT.out.1.below HM.out.2.1, HM.out.1, hfin⟩, by rw [hW1]; exact ((Grows.refl w5).alloc _).below, by rw [hW1]; exact heap_alloc_new _ _, Nat.le_refl _, own_nil _ _ _ _⟩
  have HM0 := Aside0.mk hM0
  have HW := Aside0.mk hW1
  clear hM0 hfin hW1
  go_loopw [23] (fun iv wr => ∃ (i : Nat) (vl : Value), iv = .int .i64 i ∧ i ≤ l.length ∧ Mt w5 wr w5.heap.size ⟨p, 0, none⟩ ⟨gt, 0, none⟩ l s vl (lens (l.take i)) 0 0 0) (fun iv wr => l.length - (intOf iv).toNat)
  case atStart => exact ⟨0, _, rfl, Nat.zero_le _, HM0.out⟩
  case round =>
    obtain ⟨i, vl, rfl, hi, hM⟩ := hrel
    by_cases hlt : i < l.length
    · obtain ⟨ad, A1, c1, rfl, hx, hl1, hi1⟩ := kRows_at HC.out i hlt
      replace hx := cell_below (HM.out.2.2.trans (hM.bw.mono HM.out.2.2.size)) hx
      have c1' := hM.c1
      have z1 := hM.fz 1
      have hu : l[i].length ≤ 20 := HI.out.1.all _ (List.getElem_mem _)
      have hll := HI.out.1.len
      obtain ⟨n, hn⟩ : ∃ n, n = l[i].length := ⟨_, rfl⟩
      rw [← hn] at hx
      have hlen : (lens (l.take i)).length ≤ 20 := by simp [lens]; omega
      have il : (i : Int) < (l.length : Int) := by omega
      have HQ := Aside0.mk (And.intro hM hn)
      clear hM hn hl1 hi1
      go_wp2_with (first | ((with_reducible refine gate_builtin (b := .append) (xs := #[.tmp 31, .tmp 34]) rfl ?_); at_builtin; go_loud (refine Kd.R_append (Kd.int .i64) (w0 := w5) w5.heap.size rfl (.tmp 31) (.tmp 34) 23 3 (.int .i64 0) 8 rfl Try.underlying23 info3 rfl (by decide) (by omega) vl (lens (l.take i)) (n : Int) [.int .i64 (n : Int)] (fun _ => True) (fun _ => False) rfl rfl rfl (fun _ hk => hk.elim) (fun _ _ => trivial) (Kd.R_of_own HQ.out.1.ln (fun _ _ => trivial)) HQ.out.1.bw HQ.out.1.bw.size (by omega) ?_); intro v1 w8 ho hb hg hat; obtain ⟨A9, c9, e9⟩ := Kd.R_slice ho; subst e9; have b8 := HQ.out.1.blk1 hg; have k8 : w8.cell? ⟨w5.heap.size, 1, none⟩ = some vl := (blk_cell b8 1).trans rfl; have z8 := blk_frozen b8 1; have HZ := Aside0.mk (And.intro ho hg); clear ho hb hg hat b8))
      refine ⟨⟨i + 1, .slice A9 ((lens (l.take i)).length + 1) c9, by go_num, by omega, ?_⟩, by simp only [intOf]; omega⟩
      have e1 : lens (l.take (i + 1)) = lens (l.take i) ++ [(n : Int)] := by rw [← List.take_append_getElem hlt, lens_snoc, HQ.out.2]
      rw [e1]
      have h_ := HQ.out.1.setLn _ _ HZ.out.2 (Kd.own_of_R HZ.out.1)
      rw [List.length_append] at h_
      exact h_
    · have il : ¬ ((i : Int) < (l.length : Int)) := by omega
      have hil : i = l.length := by omega
      rw [hil, List.take_length] at hM
      clear hil hlt
      go_wp2
      go_ret2
      exact ⟨w5, w5.heap.size, rfl, ⟨_, _, vl, hM⟩, HM.out.2.2.trans (hM.bw.mono HM.out.2.2.size), HM.out.2.2.size⟩
end Go.Proofs.Ytgfmplhpoblleaa.FailW
end
section
/- match: Feed. -/
namespace Go.Proofs.Ytgfmplhpoblleaa.FailW
open Go.RowKit Go.Shelf Go.Lib Go.Proofs Go.Proofs.YtgfmplhpoblleaaW.PrintWords Go.Proofs.YtgfmplhpoblleaaW.PrintLast Go.Proofs.YtgfmplhpoblleaaW.PrintMore Go.Proofs.Ytgfmplhpoblleaa.PRank Go.Proofs.Ytgfmplhpoblleaa.PFB Go.Proofs.Ytgfmplhpoblleaa.RankW Go.Proofs.Ytgfmplhpoblleaa.SortOwn Go.Proofs.Ytgfmplhpoblleaa
open Go.Proofs.Ytgfmplhpoblleaa.Cmps hiding dedup
set_option linter.unusedVariables false
set_option linter.unusedSimpArgs false

/-- The hits that end where so many numbers have been read, at a node of this text. -/
def hitsE (l : List (List Int)) (u : List Int) (rd : Int) : List S71 := (patT 0 l u).map fun i => ⟨i, rd - (lens l).getD i.toNat 0⟩
theorem Mt.len_at {w0 w : World} {g : Nat} {p t : Addr} {l : List (List Int)} {s : St} {vl : Value} {ls : List Int} {at_ rd tk : Int} (h : Mt w0 w g p t l s vl ls at_ rd tk) (i : Nat) (hi : i < ls.length) : ∃ gl cap, vl = .slice (some ⟨gl, 0, none⟩) ls.length cap ∧ w.cell? ⟨gl, i, none⟩ = some (.int .i64 ls[i]) := by
  obtain ⟨gl, cap, rfl⟩ := own_pos9 h.ln (by omega)
  exact ⟨gl, cap, rfl, own_cells h.ln (encI_at ls i hi)⟩
theorem Mt.apart {w0 w : World} {g : Nat} {p t : Addr} {l : List (List Int)} {s : St} {vl : Value} {ls : List Int} {at_ rd tk : Int} (h : Mt w0 w g p t l s vl ls at_ rd tk) {base : Nat} {ok : Nat → Prop} {v : Value} {xs : List S71} (hR : Kd.R k71 71 w base ok v xs) (hb : w0.heap.size ≤ base) : ∀ r, v.ownBlock = some r → w0.heap.size ≤ r ∧ r ≠ g ∧ vl.ownBlock ≠ some r := by
  obtain ⟨_, inner, hown, _⟩ := hR
  intro r hr
  refine ⟨Nat.le_trans hb (own_base hown r hr), ?_, ?_⟩
  · rcases own_ne_blk hown h.blk (by decide) with h1 | h1
    · rw [h1] at hr; cases hr
    · intro e; subst e; exact h1 hr
  · rcases own_type_ne hown h.ln (by decide) with h1 | h1
    · rw [h1] at hr; cases hr
    · intro e; rw [← e] at hr; exact h1 hr
set_option maxHeartbeats 8000000 in
set_option maxRecDepth 100000 in
theorem feed_calls {w0 w : World} {g : Nat} {p t : Addr} {l : List (List Int)} {s : St} {vl : Value} {m : Nat} {rd tk : Nat} {u : List Int} (h : Mt w0 w g p t l s vl (lens l) m rd tk) (hl : In 20 l) (he : l.any (·.isEmpty) = false) (hu : (textsOf l)[m]? = some u) (hrd : rd ≤ 1000000) (htk : tk ≤ 1000000) (ch : Int) (q tn : Nat) (hq : q = (textsOf l).idxOf (lngT (textsOf l) (u ++ [ch]))) (htn : tn = 1 + cnt (textsOf l) ch (u.length + 1) u) :
    Calls Try.prog 55 #[.pointer (some ⟨g, 0, none⟩), .int .i64 ch] w fun e w' => ∃ v, e = .returned v ∧ Kd.R k71 71 w' w.heap.size (fun _ => True) v (hitsE l (lngT (textsOf l) (u ++ [ch])) (rd + 1)) ∧ Mt w0 w' g p t l s vl (lens l) q ((rd + 1 : Nat) : Int) ((tk + tn : Nat) : Int) ∧ w.grownBy w' (some g) := by
  obtain ⟨v, hv⟩ : ∃ v, v = lngT (textsOf l) (u ++ [ch]) := ⟨_, rfl⟩
  have hqv : (textsOf l)[q]? = some v := by rw [hq, hv]; exact at_idx (lngT_mem (kl_trie hl).1.nil _)
  have htn2 : tn ≤ 2000 := by
    have h1 := cnt_few (kl_trie hl).1.closed ch (u.length + 1) u (by omega)
    have h2 := (kl_trie hl).2.2.2.1.2 u (List.mem_of_getElem? hu)
    omega
  obtain ⟨r1, hr1⟩ : ∃ r, r = rd + 1 := ⟨_, rfl⟩
  obtain ⟨t1, ht1⟩ : ∃ r, r = tk + tn := ⟨_, rfl⟩
  have e1 : IntKind.i64.wrap ((tk : Int) + (tn : Int)) = (t1 : Int) := by rw [IntWalk.i64_in _ (by omega)]; omega
  have e2 : IntKind.i64.wrap ((rd : Int) + 1) = (r1 : Int) := by rw [IntWalk.i64_in _ (by omega)]; omega
  have hr1b : r1 ≤ 1000001 := by omega
  have hrr : ((rd : Int) + 1) = (r1 : Int) := by omega
  rw [← hv, ← hr1, ← ht1, hrr]
  have H := Aside0.mk (And.intro h (And.intro hl (And.intro he (And.intro hu (And.intro hq (And.intro htn hqv))))))
  have c0 := h.c0
  have c2 := h.c2
  clear h hl he hu hq htn hqv hv hr1 ht1 hrr
  go_enter Try.func55, Try.ntmps55
  go_wp2
  go_region_held3 (fun w' => w'.cell? ⟨g, 0, none⟩ = some (.pointer (some p)) ∧ w'.cell? ⟨g, 2, none⟩ = some (.int .i64 (m : Int)))
    (first | exact ⟨c0, c2⟩ | exact ⟨cell_grows G2.out c0, cell_grows G2.out c2⟩ | go_keep)
    ((go_simp; go_at_call 39; refine (mgo_at (H.out.1.now.below ((Grows.refl w).drewN 1).below) H.out.2.1 H.out.2.2.2.1 ch q tn H.out.2.2.2.2.1 H.out.2.2.2.2.2.1).mono ?_; rintro e w2 ⟨rfl, hg2⟩; have G2 := Aside0.mk (((Grows.refl w).drewN 1).trans hg2); clear hg2))
  have M2 := H.out.1.grows G2.out
  have d2 := M2.c2
  have d3 := M2.c3
  have d4 := M2.c4
  have z2 := M2.fz 2
  have z3 := M2.fz 3
  have z4 := M2.fz 4
  have HM2 := Aside0.mk M2
  clear M2 c0 c2
  go_wp2
  obtain ⟨W3, hW3⟩ : ∃ W3, W3 = ((w2.setCell ⟨g, 2, none⟩ (Value.int IntKind.i64 q)).setCell ⟨g, 4, none⟩ (Value.int IntKind.i64 t1)).setCell ⟨g, 3, none⟩ (Value.int IntKind.i64 r1) := ⟨_, rfl⟩
  rw [← hW3]
  have M3 : Mt w0 W3 g p t l s vl (lens l) q r1 t1 := by rw [hW3]; exact ((HM2.out.sat q).stk t1).srd r1
  have GB3 : w.grownBy W3 (some g) := by rw [hW3]; exact ((grows_grownTo G2.out (some g)).trans (grownBy_set w2 ⟨g, 2, none⟩ _)).trans ((grownBy_set _ ⟨g, 4, none⟩ _).trans (grownBy_set _ ⟨g, 3, none⟩ _))
  have c0 := M3.c0
  have c2 := M3.c2
  have H3 := Aside0.mk (And.intro M3 GB3)
  clear M3 GB3 hW3 d2 d3 d4 z2 z3 z4
  go_region_held3 (fun w' => w'.cell? ⟨g, 0, none⟩ = some (.pointer (some p)) ∧ w'.cell? ⟨g, 2, none⟩ = some (.int .i64 (q : Int)))
    (first | exact ⟨c0, c2⟩ | exact ⟨cell_below HB4.out.2.2 c0, cell_below HB4.out.2.2 c2⟩ | go_keep)
    ((go_simp; go_at_call 47; refine (mpat_at (H3.out.1.now.below ((Grows.refl W3).drewN 1).below) H.out.2.1 H.out.2.2.1 H.out.2.2.2.2.2.2).mono ?_; rintro e w4 ⟨v4, rfl, hR, hb⟩; obtain ⟨A4, c4, rfl, hl4, hC4⟩ := Kd.R_reads hR; have HB4 := Aside0.mk (And.intro (Kd.R_lower hR (show w.heap.size ≤ _ from H3.out.2.size)) (And.intro hl4 (((Grows.refl W3).drewN 1).below.trans (hb.mono (Nat.le_refl _))))); clear hb hR hl4 hC4))
  obtain ⟨pn, hpn⟩ : ∃ pn, pn = patT 0 l v := ⟨_, rfl⟩
  have hpl : pn.length ≤ 20 := by rw [hpn]; have := patT_len v l 0; have := H.out.2.1.len; omega
  rw [← hpn] at HB4
  rw [← hpn]
  have HPN := Aside0.mk hpn
  clear hpn
  go_wp2
  go_loopw [7, 52] (fun ov iv wr => ∃ (k : Nat) (acc : List S71), iv = .int .i64 k ∧ k ≤ pn.length ∧ acc = (pn.take k).map (fun i => (⟨i, (r1 : Int) - (lens l).getD i.toNat 0⟩ : S71)) ∧ Kd.R k71 71 wr w.heap.size (fun _ => True) ov acc ∧ Mt w0 wr g p t l s vl (lens l) q r1 t1 ∧ Kd.R (Kd.int .i64) 3 wr w.heap.size (fun _ => True) (.slice A4 pn.length c4) pn ∧ w.grownBy wr (some g)) (fun ov iv wr => pn.length - (intOf iv).toNat)
  case atStart => exact ⟨0, [], rfl, Nat.zero_le _, rfl, Kd.R_nil _ _ _ _ _, H3.out.1.below HB4.out.2.2, HB4.out.1, H3.out.2.trans (grown_of_below HB4.out.2.2 _)⟩
  case round =>
    obtain ⟨k, acc, rfl, hk, hacc, hR, hM, hC, hG⟩ := hrel
    by_cases hlt : k < pn.length
    · obtain ⟨A4_, c4_, e4_, hl4_, hC4_⟩ := Kd.R_reads hC
      injection e4_ with q1 q2 q3
      subst q1 q3
      obtain ⟨ad, rfl, hcell⟩ := int_at hC4_ k hlt
      clear q2 hl4_ hC4_
      have hmem : pn[k] ∈ patT 0 l v := by rw [← HPN.out]; exact List.getElem_mem _
      obtain ⟨a, pa, ha, hal, -⟩ := (mem_patT v l 0 pn[k]).1 hmem
      rw [Nat.zero_add] at ha
      have hall : a < (lens l).length := by have := (List.getElem?_eq_some_iff.1 hal).1; simpa [lens] using this
      obtain ⟨gl, cl, hvl, hxl⟩ := hM.len_at a hall
      have hll := H.out.2.1.len
      have hlall : (lens l).length = l.length := by simp [lens]
      obtain ⟨n, hn⟩ : ∃ n : Nat, ∀ h_ : a < (lens l).length, (lens l)[a]'h_ = n := ⟨(l[a]'(by omega)).length, fun _ => by simp [lens]⟩
      have hn20 : n ≤ 20 := by
        have h1 : (lens l)[a] = ((l[a]'(by omega)).length : Int) := by simp [lens]
        have h2 := H.out.2.1.all _ (List.getElem_mem (show a < l.length by omega))
        have h3 := hn hall
        omega
      have xl := hxl
      rw [hn hall] at xl
      have x3 := hM.c3
      have x1 := hM.c1
      rw [hvl] at x1
      rw [ha] at hcell
      have il : (k : Int) < (pn.length : Int) := by omega
      have al : (a : Int) < ((lens l).length : Int) := by omega
      have al2 : (a : Int) < (l.length : Int) := by omega
      have al3 : a < l.length := by omega
      obtain ⟨d, hd⟩ : ∃ d : Int, d = (r1 : Int) - (n : Int) := ⟨_, rfl⟩
      have e5 : IntKind.i64.wrap ((r1 : Int) - (n : Int)) = d := by rw [IntWalk.i64_in _ (by omega)]; omega
      have hk2 : acc.length ≤ 20 := by rw [hacc]; simp; omega
      have hwsz : w.heap.size ≤ wr.heap.size := hG.size
      obtain ⟨A7, c7, e7⟩ := Kd.R_slice hR
      subst e7
      have HX := Aside0.mk (And.intro hacc (And.intro hR (And.intro hM (And.intro hG (And.intro hwsz (And.intro hC (And.intro ha (And.intro hd (And.intro hn hvl)))))))))
      clear hacc hR hM hG hC ha hd hn hvl hxl hal hmem
      have HAL := Aside0.mk hall
      clear hlall hall
      go_wp2_with fail
      refine wp_region_held_drew (S := (fun w' => w'.cell? ⟨g, 3, none⟩ = some (.int .i64 (r1 : Int)) ∧ w'.cell? ⟨g, 1, none⟩ = some (.slice (some ⟨gl, 0, none⟩) (lens l).length cl) ∧ w'.cell? ⟨gl, a, none⟩ = some (.int .i64 (n : Int)))) (by kernel_rfl) ?s0f (fun hHeld => ?b0f)
      case s0f => (first | exact ⟨x3, x1, xl⟩ | exact ⟨cell_grows ((Grows.refl wr).drewN 1) x3, cell_grows ((Grows.refl wr).drewN 1) x1, cell_grows ((Grows.refl wr).drewN 1) xl⟩ | exact ⟨cell_grows (((Grows.refl wr).drewN 1).alloc _) x3, cell_grows (((Grows.refl wr).drewN 1).alloc _) x1, cell_grows (((Grows.refl wr).drewN 1).alloc _) xl⟩ | exact ⟨y3, y1, yl⟩ | go_keep)
      refine wpAnyH_take (i := 0) (oi := { dst := some 56, op := Go.Op.move (Go.Operand.tmp 7), type := 68, pos := "match.go:43", after := #[], guard := none }) (v := ?vf_1) rfl (by kernel_rfl) (by kernel_rfl) (by kernel_rfl) (fun _ _ _ h => h) (Or.inl ⟨by rfl, ?hyf_1⟩) (by assumption) ?ref_1
      case hyf_1 => (intro w hSw; (try dsimp only at hSw); go_simp; try with_reducible rfl)
      try simp only [Act.put, List.setIfInBounds_toArray, List.set_cons_zero, List.set_cons_succ]
      refine wpAnyH_take (i := 1) (oi := { dst := some 57, op := Go.Op.move (Go.Operand.tmp 9), type := 3, pos := "match.go:43", after := #[], guard := none }) (v := ?vf_2) rfl (by kernel_rfl) (by kernel_rfl) (by kernel_rfl) (fun _ _ _ h => h) (Or.inl ⟨by rfl, ?hyf_2⟩) (by assumption) ?ref_2
      case hyf_2 => (intro w hSw; (try dsimp only at hSw); go_simp; try with_reducible rfl)
      try simp only [Act.put, List.setIfInBounds_toArray, List.set_cons_zero, List.set_cons_succ]
      refine wpAnyH_take (i := 2) (oi := { dst := some 58, op := Go.Op.move (Go.Operand.tmp 0), type := 65, pos := "match.go:43", after := #[], guard := none }) (v := ?vf_3) rfl (by kernel_rfl) (by kernel_rfl) (by kernel_rfl) (fun _ _ _ h => h) (Or.inl ⟨by rfl, ?hyf_3⟩) (by assumption) ?ref_3
      case hyf_3 => (intro w hSw; (try dsimp only at hSw); go_simp; try with_reducible rfl)
      try simp only [Act.put, List.setIfInBounds_toArray, List.set_cons_zero, List.set_cons_succ]
      refine wpAnyH_take (i := 3) (oi := { dst := some 59, op := Go.Op.nilCheck (Go.Operand.tmp 58), type := 0, pos := "match.go:43", after := #[{ on := 2, ground := Go.Ground.data }], guard := none }) (v := ?vf_4) rfl (by kernel_rfl) (by kernel_rfl) (by kernel_rfl) (fun _ _ _ h => h) (Or.inl ⟨by rfl, ?hyf_4⟩) (by assumption) ?ref_4
      case hyf_4 => (intro w hSw; (try dsimp only at hSw); go_simp; try with_reducible rfl)
      try simp only [Act.put, List.setIfInBounds_toArray, List.set_cons_zero, List.set_cons_succ]
      refine wpAnyH_take (i := 4) (oi := { dst := some 60, op := Go.Op.fieldAddr 111 (Go.Operand.tmp 59) 3, type := 0, pos := "match.go:43", after := #[{ on := 3, ground := Go.Ground.data }], guard := none }) (v := ?vf_5) rfl (by kernel_rfl) (by kernel_rfl) (by kernel_rfl) (fun _ _ _ h => h) (Or.inl ⟨by rfl, ?hyf_5⟩) (by assumption) ?ref_5
      case hyf_5 => (intro w hSw; (try dsimp only at hSw); go_simp; try with_reducible rfl)
      try simp only [Act.put, List.setIfInBounds_toArray, List.set_cons_zero, List.set_cons_succ]
      refine wpAnyH_take (i := 5) (oi := { dst := some 61, op := Go.Op.load 3 (Go.Operand.tmp 60), type := 3, pos := "match.go:43", after := #[{ on := 4, ground := Go.Ground.data }], guard := none }) (v := ?vf_6) rfl (by kernel_rfl) (by kernel_rfl) (by kernel_rfl) (fun _ _ _ h => h) (Or.inl ⟨by rfl, ?hyf_6⟩) (by assumption) ?ref_6
      case hyf_6 => (intro w hSw; (try dsimp only at hSw); go_simp; try with_reducible rfl)
      try simp only [Act.put, List.setIfInBounds_toArray, List.set_cons_zero, List.set_cons_succ]
      refine wpAnyH_take (i := 6) (oi := { dst := some 62, op := Go.Op.move (Go.Operand.tmp 0), type := 65, pos := "match.go:43", after := #[], guard := none }) (v := ?vf_7) rfl (by kernel_rfl) (by kernel_rfl) (by kernel_rfl) (fun _ _ _ h => h) (Or.inl ⟨by rfl, ?hyf_7⟩) (by assumption) ?ref_7
      case hyf_7 => (intro w hSw; (try dsimp only at hSw); go_simp; try with_reducible rfl)
      try simp only [Act.put, List.setIfInBounds_toArray, List.set_cons_zero, List.set_cons_succ]
      refine wpAnyH_take (i := 7) (oi := { dst := some 63, op := Go.Op.nilCheck (Go.Operand.tmp 62), type := 0, pos := "match.go:43", after := #[{ on := 6, ground := Go.Ground.data }], guard := none }) (v := ?vf_8) rfl (by kernel_rfl) (by kernel_rfl) (by kernel_rfl) (fun _ _ _ h => h) (Or.inl ⟨by rfl, ?hyf_8⟩) (by assumption) ?ref_8
      case hyf_8 => (intro w hSw; (try dsimp only at hSw); go_simp; try with_reducible rfl)
      try simp only [Act.put, List.setIfInBounds_toArray, List.set_cons_zero, List.set_cons_succ]
      refine wpAnyH_take (i := 8) (oi := { dst := some 64, op := Go.Op.fieldAddr 111 (Go.Operand.tmp 63) 1, type := 0, pos := "match.go:43", after := #[{ on := 7, ground := Go.Ground.data }], guard := none }) (v := ?vf_9) rfl (by kernel_rfl) (by kernel_rfl) (by kernel_rfl) (fun _ _ _ h => h) (Or.inl ⟨by rfl, ?hyf_9⟩) (by assumption) ?ref_9
      case hyf_9 => (intro w hSw; (try dsimp only at hSw); go_simp; try with_reducible rfl)
      try simp only [Act.put, List.setIfInBounds_toArray, List.set_cons_zero, List.set_cons_succ]
      refine wpAnyH_take (i := 9) (oi := { dst := some 65, op := Go.Op.load 23 (Go.Operand.tmp 64), type := 23, pos := "match.go:43", after := #[{ on := 8, ground := Go.Ground.data }], guard := none }) (v := ?vf_10) rfl (by kernel_rfl) (by kernel_rfl) (by kernel_rfl) (fun _ _ _ h => h) (Or.inl ⟨by rfl, ?hyf_10⟩) (by assumption) ?ref_10
      case hyf_10 => (intro w hSw; (try dsimp only at hSw); go_simp; try with_reducible rfl)
      try simp only [Act.put, List.setIfInBounds_toArray, List.set_cons_zero, List.set_cons_succ]
      refine wpAnyH_take (i := 10) (oi := { dst := some 66, op := Go.Op.move (Go.Operand.tmp 9), type := 3, pos := "match.go:43", after := #[], guard := none }) (v := ?vf_11) rfl (by kernel_rfl) (by kernel_rfl) (by kernel_rfl) (fun _ _ _ h => h) (Or.inl ⟨by rfl, ?hyf_11⟩) (by assumption) ?ref_11
      case hyf_11 => (intro w hSw; (try dsimp only at hSw); go_simp; try with_reducible rfl)
      try simp only [Act.put, List.setIfInBounds_toArray, List.set_cons_zero, List.set_cons_succ]
      refine wpAnyH_take (i := 11) (oi := { dst := some 67, op := Go.Op.indexAddr 23 (Go.Operand.tmp 65) (Go.Operand.tmp 66), type := 0, pos := "match.go:43", after := #[{ on := 9, ground := Go.Ground.data }, { on := 10, ground := Go.Ground.data }], guard := none }) (v := ?vf_12) rfl (by kernel_rfl) (by kernel_rfl) (by kernel_rfl) (fun _ _ _ h => h) (Or.inl ⟨by rfl, ?hyf_12⟩) (by assumption) ?ref_12
      case hyf_12 => (intro w hSw; (try dsimp only at hSw); go_simp; try with_reducible rfl)
      try simp only [Act.put, List.setIfInBounds_toArray, List.set_cons_zero, List.set_cons_succ]
      refine wpAnyH_take (i := 12) (oi := { dst := some 68, op := Go.Op.load 3 (Go.Operand.tmp 67), type := 3, pos := "match.go:43", after := #[{ on := 11, ground := Go.Ground.data }], guard := none }) (v := ?vf_13) rfl (by kernel_rfl) (by kernel_rfl) (by kernel_rfl) (fun _ _ _ h => h) (Or.inl ⟨by rfl, ?hyf_13⟩) (by assumption) ?ref_13
      case hyf_13 => (intro w hSw; (try dsimp only at hSw); go_simp; try with_reducible rfl)
      try simp only [Act.put, List.setIfInBounds_toArray, List.set_cons_zero, List.set_cons_succ]
      refine wpAnyH_take (i := 13) (oi := { dst := some 69, op := Go.Op.binOp Go.BinOp.sub 3 (Go.Operand.tmp 61) (Go.Operand.tmp 68) 3, type := 3, pos := "match.go:43", after := #[{ on := 5, ground := Go.Ground.data }, { on := 12, ground := Go.Ground.data }], guard := none }) (v := ?vf_14) rfl (by kernel_rfl) (by kernel_rfl) (by kernel_rfl) (fun _ _ _ h => h) (Or.inl ⟨by rfl, ?hyf_14⟩) (by assumption) ?ref_14
      case hyf_14 => (intro w hSw; (try dsimp only at hSw); go_simp; try with_reducible rfl)
      try simp only [Act.put, List.setIfInBounds_toArray, List.set_cons_zero, List.set_cons_succ]
      refine wpAnyH_take (i := 14) (oi := { dst := some 70, op := Go.Op.build 71 #[(0, Go.Operand.tmp 57), (1, Go.Operand.tmp 69)], type := 71, pos := "match.go:43", after := #[{ on := 1, ground := Go.Ground.data }, { on := 13, ground := Go.Ground.data }], guard := none }) (v := ?vf_15) rfl (by kernel_rfl) (by kernel_rfl) (by kernel_rfl) (fun _ _ _ h => h) (Or.inl ⟨by rfl, ?hyf_15⟩) (by assumption) ?ref_15
      case hyf_15 => (intro w hSw; (try dsimp only at hSw); go_simp; try with_reducible rfl)
      try simp only [Act.put, List.setIfInBounds_toArray, List.set_cons_zero, List.set_cons_succ]
      refine wpAnyH_ready (rs := [15]) (by kernel_rfl) (by simp) ?rdf_16
      refine AllReadyH.cons (o := { dst := some 71, op := Go.Op.buildSlice 68 1 #[(0, Go.Operand.tmp 70)], type := 68, pos := "match.go:43", after := #[{ on := 14, ground := Go.Ground.data }], guard := none }) rfl (fun K hK => ?stf_16) AllReadyH.nil
      go_simp
      refine hK.out _ _ ?hsf_16 (fun hHeld => ?ref_16)
      case hsf_16 => (first | exact ⟨x3, x1, xl⟩ | exact ⟨cell_grows ((Grows.refl wr).drewN 1) x3, cell_grows ((Grows.refl wr).drewN 1) x1, cell_grows ((Grows.refl wr).drewN 1) xl⟩ | exact ⟨cell_grows (((Grows.refl wr).drewN 1).alloc _) x3, cell_grows (((Grows.refl wr).drewN 1).alloc _) x1, cell_grows (((Grows.refl wr).drewN 1).alloc _) xl⟩ | exact ⟨y3, y1, yl⟩ | go_keep)
      clear hK K
      try simp only [Act.put, List.setIfInBounds_toArray, List.set_cons_zero, List.set_cons_succ]
      refine wpAnyH_ready (rs := [16]) (by kernel_rfl) (by simp) ?rdf_17
      refine AllReadyH.cons (o := { dst := some 72, op := Go.Op.call { callee := Go.Callee.builtin Go.Builtin.append, args := #[Go.Operand.tmp 56, Go.Operand.tmp 71], argTypes := #[68, 68] }, type := 68, pos := "match.go:43", after := #[{ on := 0, ground := Go.Ground.data }, { on := 15, ground := Go.Ground.data }], guard := none }) rfl (fun K hK => ?stf_17) AllReadyH.nil
      refine Kd.R_append_step (W := wr.drew) k71 (w0 := wr.drew) w.heap.size (by rfl) (.tmp 56) (.tmp 71) 68 71 (.agg #[(.int .i64 0), (.int .i64 0)]) 16 rfl Try.underlying68 info71 rfl (by decide) (by omega) (.slice A7 acc.length c7) acc (⟨(a : Int), d⟩ : S71) [.int .i64 (a : Int), .int .i64 d] (fun _ => True) (fun _ => False) (by first | rfl | simp [Act.eval, Act.put]) (by first | rfl | simp [Act.eval, Act.put]) (k71_mkM _ _ _ (⟨(a : Int), d⟩ : S71)) (fun _ hk => hk.elim) (fun _ _ => trivial) (by (with_reducible repeat (first | apply Kd.R_drewN | apply Kd.R_drew)); exact HX.out.2.1) (Go.RowKit.Below.refl _ _) (by exact HX.out.2.2.2.2.1) (by omega) ?_
      intro v9 w9 ho9 hb9 hg9 hat9
      obtain ⟨A9, c9, e9⟩ := Kd.R_slice ho9
      subst e9
      have MA : Mt w0 wr.drew g p t l s vl (lens l) q r1 t1 := HX.out.2.2.1.grows ((Grows.refl wr).drewN 1)
      have RA : Kd.R k71 71 wr.drew w.heap.size (fun _ => True) (.slice A7 acc.length c7) acc := Kd.R_drewN HX.out.2.1 1
      have M9 := MA.other hg9 (MA.apart RA H.out.1.bw.size)
      have y3 := M9.c3
      have y1 := M9.c1
      obtain ⟨gl9, cl9, hv9, yl⟩ := M9.len_at a HAL.out
      rw [HX.out.2.2.2.2.2.2.2.2.2] at hv9
      injection hv9 with q1 q2 q3
      injection q1 with q1
      injection q1 with q1
      subst q1
      rw [HX.out.2.2.2.2.2.2.2.2.1 HAL.out] at yl
      rw [HX.out.2.2.2.2.2.2.2.2.2] at y1
      have H9 := Aside0.mk (And.intro ho9 (And.intro M9 hg9))
      clear ho9 hb9 hat9 hg9 MA RA M9 q2 q3
      refine hK.out _ _ ?hsf_17 (fun hHeld => ?ref_17)
      case hsf_17 => (first | exact ⟨x3, x1, xl⟩ | exact ⟨cell_grows ((Grows.refl wr).drewN 1) x3, cell_grows ((Grows.refl wr).drewN 1) x1, cell_grows ((Grows.refl wr).drewN 1) xl⟩ | exact ⟨cell_grows (((Grows.refl wr).drewN 1).alloc _) x3, cell_grows (((Grows.refl wr).drewN 1).alloc _) x1, cell_grows (((Grows.refl wr).drewN 1).alloc _) xl⟩ | exact ⟨y3, y1, yl⟩ | go_keep)
      clear hK K
      try simp only [Act.put, List.setIfInBounds_toArray, List.set_cons_zero, List.set_cons_succ]
      refine wpAnyH_take (i := 17) (oi := { dst := some 7, op := Go.Op.assign (Go.Operand.tmp 72), type := 68, pos := "match.go:43", after := #[{ on := 16, ground := Go.Ground.data }, { on := 16, ground := Go.Ground.chain }, { on := 0, ground := Go.Ground.phase }, { on := 1, ground := Go.Ground.phase }, { on := 2, ground := Go.Ground.phase }, { on := 3, ground := Go.Ground.phase }, { on := 4, ground := Go.Ground.phase }, { on := 5, ground := Go.Ground.phase }, { on := 6, ground := Go.Ground.phase }, { on := 7, ground := Go.Ground.phase }, { on := 8, ground := Go.Ground.phase }, { on := 9, ground := Go.Ground.phase }, { on := 10, ground := Go.Ground.phase }, { on := 11, ground := Go.Ground.phase }, { on := 12, ground := Go.Ground.phase }, { on := 13, ground := Go.Ground.phase }, { on := 14, ground := Go.Ground.phase }, { on := 15, ground := Go.Ground.phase }, { on := 16, ground := Go.Ground.phase }], guard := none }) (v := ?vf_18) rfl (by kernel_rfl) (by kernel_rfl) (by kernel_rfl) (fun _ _ _ h => h) (Or.inl ⟨by rfl, ?hyf_18⟩) (by assumption) ?ref_18
      case hyf_18 => (intro w hSw; (try dsimp only at hSw); go_simp; try with_reducible rfl)
      try simp only [Act.put, List.setIfInBounds_toArray, List.set_cons_zero, List.set_cons_succ]
      refine wpAnyH_done (by kernel_rfl) ?dnf _
      go_wp2
      have hown7 : ∀ r, (Value.slice A7 acc.length c7).ownBlock = some r → w.heap.size ≤ r := fun r hr => by
        obtain ⟨_, inner, hown, _⟩ := HX.out.2.1
        exact own_base hown r hr
      have hrow := own_other (Kd.own_of_R (Kd.R_drewN HX.out.2.2.2.2.2.1 1)) H9.out.2.2 (by
        obtain ⟨_, inner, hown, _⟩ := Kd.R_drewN HX.out.2.1 1
        exact own_type_ne (Kd.own_of_R (Kd.R_drewN HX.out.2.2.2.2.2.1 1)) hown (by decide))
      refine ⟨⟨k + 1, acc ++ [⟨(a : Int), d⟩], by go_num, by omega, ?_, ?_, H9.out.2.1, Kd.R_of_own hrow (fun _ _ => trivial), ?_⟩, by simp only [intOf]; omega⟩
      · have h1 := HX.out.2.2.2.2.2.2.1
        have h2 := HX.out.2.2.2.2.2.2.2.1
        have h3 := HX.out.2.2.2.2.2.2.2.2.1 HAL.out
        have h4 := HAL.out
        rw [← List.take_append_getElem hlt, List.map_append, ← HX.out.1, h1, List.map_singleton, h2, ← h3]
        simp [h4]
      · have h1 := H9.out.1
        rw [List.length_append] at h1
        exact h1
      · have h1 := H9.out.2.2
        have h2 := HX.out.2.2.2.1
        exact ⟨h1.os.trans h2.os, h1.tape.trans h2.tape, h1.output.trans h2.output, Nat.le_trans h2.size h1.size, fun b hb hne => (h1.block b (Nat.lt_of_lt_of_le hb h2.size) (fun e => by have := hown7 b e.symm; omega)).trans (h2.block b hb hne)⟩
    · have il : ¬ ((k : Int) < (pn.length : Int)) := by omega
      have hkl : k = pn.length := by omega
      have HX := Aside0.mk (And.intro hacc (And.intro hR (And.intro hM hG)))
      clear hacc hR hM hC hG hlt
      go_wp2
      go_ret
      refine ⟨_, rfl, ?_, HX.out.2.2.1, HX.out.2.2.2⟩
      have h_ := HX.out.2.1
      rw [HX.out.1, hkl, List.take_length, HPN.out] at h_
      exact h_
end Go.Proofs.Ytgfmplhpoblleaa.FailW
end
