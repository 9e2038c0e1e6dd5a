/- FailRb, Lit, FailY, FailYb, PFBx6, FailRc. -/
import Derived.Test.YtgfmplhpoblleaaFK4
import Derived.Test.YtgfmplhpoblleaaFK5
import Derived.Test.YtgfmplhpoblleaaFK10
import Derived.Test.YtgfmplhpoblleaaFK12
import Derived.Test.YtgfmplhpoblleaaFK14
section
/- Outputs and patterns of a trie's nodes: the program's are the document's. -/
namespace Go.Proofs.Ytgfmplhpoblleaa.FailW
open Go.RowKit Go.Shelf Go.Lib Go.Proofs Go.Proofs.YtgfmplhpoblleaaW.PrintWords Go.Proofs.YtgfmplhpoblleaaW.PrintLast Go.Proofs.YtgfmplhpoblleaaW.PrintMore Go.Proofs.Ytgfmplhpoblleaa.PRank Go.Proofs.Ytgfmplhpoblleaa.PFB Go.Proofs.Ytgfmplhpoblleaa.RankW Go.Proofs.Ytgfmplhpoblleaa.SortOwn Go.Proofs.Ytgfmplhpoblleaa
open Go.Proofs.Ytgfmplhpoblleaa.Cmps hiding dedup
set_option linter.unusedVariables false
set_option linter.unusedSimpArgs false

/-- The node of the longest end that is a pattern's text. -/
def outT (ts l : List (List Int)) : Nat → List Int → Int
  | 0, _ => -1
  | k + 1, u => if u = [] then -1 else if (endsF 0 l u).length > 0 then ((ts.idxOf u : Nat) : Int) else outT ts l k (lngT ts u.tail)
theorem lng_tail_lt (ts : List (List Int)) {u : List Int} (h : u ≠ []) : (lngT ts u.tail).length < u.length := by
  have hpos : 0 < u.length := List.length_pos_iff.2 h
  have hl := lngT_len ts u.tail
  rw [List.length_tail] at hl
  omega
theorem outT_more (ts l : List (List Int)) : ∀ (d e : Nat) (u : List Int), u.length < d → u.length < e → outT ts l d u = outT ts l e u
  | 0, _, _, h, _ => absurd h (by omega)
  | _, 0, _, _, h => absurd h (by omega)
  | d + 1, e + 1, u, h1, h2 => by
    rw [outT, outT]
    split
    · rfl
    · rename_i h
      have := lng_tail_lt ts h
      rw [outT_more ts l d e _ (by omega) (by omega)]
/-- All patterns that end a text, by the ends that are a trie's. -/
def sufT (ts l : List (List Int)) : Nat → List Int → List Int
  | 0, _ => []
  | k + 1, u => if u = [] then [] else endsF 0 l u ++ sufT ts l k (lngT ts u.tail)
section
variable {x : List S106} {ts l : List (List Int)}
theorem ends_at {k : Nat} (h : Tr x ts (fun s => endsF 0 l s) k) {m : Nat} {u : List Int} (hu : ts[m]? = some u) : (nodeOf x m).f4 = endsF 0 l u := by
  have hm := h.sp.lt hu
  rw [nodeOf_nat hm]
  exact h.en.1 m _ u (List.getElem?_eq_getElem hm) hu
theorem ol_out {k : Nat} (h : Tr x ts (fun s => endsF 0 l s) k) {s : St} (hF : LFin x ts s) : ∀ (d m : Nat) (u : List Int), ts[m]? = some u → u.length < d → atI s.ol m = outT ts l d u
  | 0, _, _, _, hd => absurd hd (by omega)
  | d + 1, m, u, hu, hd => by
    have h1 := hF.ol m u hu
    unfold OlAt at h1
    rw [h1, outT, ends_at h hu]
    split
    · rfl
    · rename_i hne
      have := lng_tail_lt ts hne
      split
      · rw [idx_of h.sp.nd hu]
      · exact ol_out h hF d _ _ (at_idx (lngT_mem h.sp.nil _)) (by omega)
/-- The program's Out is that node. -/
theorem outOf_eq {k : Nat} (h : Tr x ts (fun s => endsF 0 l s) k) {s : St} (hF : LFin x ts s) {m : Nat} {u : List Int} (hu : ts[m]? = some u) : outOf s.fl s.ol m = outT ts l (u.length + 1) u := by
  have hm := h.sp.lt hu
  unfold outOf
  rw [if_pos (isNode_iff.2 ⟨by omega, by rw [hF.fll]; omega⟩)]
  exact ol_out h hF _ m u hu (by omega)
theorem failOf_eq (h : Sp x ts) {s : St} (hF : LFin x ts s) {m : Nat} {u : List Int} (hu : ts[m]? = some u) : failOf s.fl m = ((ts.idxOf (lngT ts u.tail) : Nat) : Int) := by
  have hm := h.lt hu
  unfold failOf
  rw [if_pos (isNode_iff.2 ⟨by omega, by rw [hF.fll]; omega⟩)]
  exact hF.fl m u hu
/-- The way along the outputs gathers what the way along all ends gathers. -/
theorem pat_l {k : Nat} (h : Tr x ts (fun s => endsF 0 l s) k) {s : St} (hF : LFin x ts s) : ∀ (d : Nat) (u : List Int) (acc : List Int) (K : Nat), u ∈ ts → u.length < d → d ≤ K → patF x s.fl s.ol K (outT ts l d u) acc = some (acc ++ sufT ts l d u)
  | 0, _, _, _, _, hd, _ => absurd hd (by omega)
  | d + 1, u, acc, 0, _, _, hK => absurd hK (by omega)
  | d + 1, u, acc, K + 1, hu, hd, hK => by
    rw [outT, sufT]
    by_cases hne : u = []
    · subst hne
      rw [if_pos rfl, if_pos rfl, patF, if_neg (by omega)]; simp
    · rw [if_neg hne, if_neg hne]
      have hlt := lng_tail_lt ts hne
      have hv := lngT_mem h.sp.nil u.tail
      have hul : 0 < d := by have := List.length_pos_iff.2 hne; omega
      by_cases hE : (endsF 0 l u).length > 0
      · rw [if_pos hE]
        have hui := at_idx hu
        have hpos : ts.idxOf u ≠ 0 := fun e => by
          rw [e, h.sp.root] at hui
          exact hne (Option.some.inj hui).symm
        rw [patF, if_pos (by omega), failOf_eq h.sp hF hui, outOf_eq h hF (at_idx hv), ends_at h hui]
        rw [outT_more ts l _ d _ (by omega) (by omega)]
        rw [pat_l h hF d _ _ K hv (by omega) (by omega), List.append_assoc]
      · rw [if_neg hE]
        have e0 : endsF 0 l u = [] := List.length_eq_zero_iff.1 (by omega)
        rw [e0, List.nil_append]
        exact pat_l h hF d _ _ (K + 1) hv (by omega) (by omega)
end
theorem mem_endsF (l : List (List Int)) (s : List Int) : ∀ (k : Nat) (q : Int), q ∈ endsF k l s ↔ ∃ i : Nat, q = ((k + i : Nat) : Int) ∧ l[i]? = some s := by
  induction l with
  | nil => intro k q; simp [endsF]
  | cons p r ih =>
    intro k q
    rw [endsF, List.mem_append, ih]
    constructor
    · rintro (h | ⟨i, rfl, hi⟩)
      · split at h
        · rename_i e
          rw [List.mem_singleton] at h
          exact ⟨0, by simpa using h, by simp [e]⟩
        · simp at h
      · exact ⟨i + 1, by omega, by simpa using hi⟩
    · rintro ⟨i, rfl, hi⟩
      cases i with
      | zero =>
        simp at hi
        left
        rw [if_pos hi.symm]; simp
      | succ i => exact .inr ⟨i, by omega, by simpa using hi⟩
theorem endsF_rise (l : List (List Int)) (s : List Int) : ∀ k : Nat, (endsF k l s).Pairwise (· < ·) := by
  induction l with
  | nil => intro k; exact List.Pairwise.nil
  | cons p r ih =>
    intro k
    rw [endsF, List.pairwise_append]
    refine ⟨by split <;> simp, ih _, ?_⟩
    intro a ha b hb
    obtain ⟨i, rfl, -⟩ := (mem_endsF r s (k + 1) b).1 hb
    split at ha
    · rw [List.mem_singleton] at ha; subst ha; omega
    · simp at ha
theorem lngT_suf (ts : List (List Int)) : ∀ s, lngT ts s <:+ s
  | [] => List.suffix_refl _
  | a :: r => by
    rw [lngT]; split
    · exact List.suffix_refl _
    · exact (lngT_suf ts r).trans (List.suffix_cons a r)
/-- A shorter end that is a trie's is one of the longest's. -/
theorem suf_lng (ts : List (List Int)) {v : List Int} (hv : v ∈ ts) : ∀ s, v <:+ s → v <:+ lngT ts s
  | [], h => h
  | a :: r, h => by
    rw [lngT]; split
    · exact h
    · rename_i hn
      rcases List.suffix_cons_iff.1 h with rfl | h
      · exact absurd hv hn
      · exact suf_lng ts hv r h
theorem mem_sufT {ts l : List (List Int)} (hp : ∀ p ∈ l, p ∈ ts) (h0 : [] ∈ ts) (q : Int) : ∀ (d : Nat) (u : List Int), u ∈ ts → u.length < d → (q ∈ sufT ts l d u ↔ ∃ (i : Nat) (p : List Int), q = i ∧ l[i]? = some p ∧ p ≠ [] ∧ p <:+ u)
  | 0, _, _, hd => absurd hd (by omega)
  | d + 1, u, hu, hd => by
    rw [sufT]
    by_cases hne : u = []
    · subst hne
      rw [if_pos rfl]
      constructor
      · intro h; simp at h
      · rintro ⟨i, p, _, _, h1, h2⟩
        exact absurd (List.suffix_nil.1 h2) h1
    · rw [if_neg hne, List.mem_append, mem_endsF, mem_sufT hp h0 q d _ (lngT_mem h0 _) (by have := lng_tail_lt ts hne; omega)]
      constructor
      · rintro (⟨i, rfl, hi⟩ | ⟨i, p, rfl, hi, h1, h2⟩)
        · exact ⟨i, u, by simp, hi, hne, List.suffix_refl _⟩
        · refine ⟨i, p, rfl, hi, h1, (h2.trans (lngT_suf ts u.tail)).trans (List.tail_suffix u)⟩
      · rintro ⟨i, p, rfl, hi, h1, h2⟩
        by_cases hpu : p = u
        · subst hpu; exact .inl ⟨i, by simp, hi⟩
        · right
          refine ⟨i, p, rfl, hi, h1, suf_lng ts (hp p (List.mem_of_getElem? hi)) _ ?_⟩
          cases u with
          | nil => exact absurd rfl hne
          | cons a r =>
            rcases List.suffix_cons_iff.1 h2 with h3 | h3
            · exact absurd h3 hpu
            · exact h3
theorem nodup_sufT {ts l : List (List Int)} (hp : ∀ p ∈ l, p ∈ ts) (h0 : [] ∈ ts) : ∀ (d : Nat) (u : List Int), u ∈ ts → u.length < d → (sufT ts l d u).Nodup
  | 0, _, _, hd => absurd hd (by omega)
  | d + 1, u, hu, hd => by
    rw [sufT]
    by_cases hne : u = []
    · rw [if_pos hne]; exact List.nodup_nil
    · have hlt := lng_tail_lt ts hne
      rw [if_neg hne, List.nodup_append]
      refine ⟨(endsF_rise l u 0).imp (fun h => by omega), nodup_sufT hp h0 d _ (lngT_mem h0 _) (by omega), ?_⟩
      rintro a ha b hb rfl
      obtain ⟨i, hi1, hi2⟩ := (mem_endsF l u 0 a).1 ha
      obtain ⟨j, p, hj1, hj2, -, hj3⟩ := (mem_sufT hp h0 a d _ (lngT_mem h0 _) (by omega)).1 hb
      have : i = j := by omega
      subst this
      rw [hi2] at hj2
      obtain rfl := Option.some.inj hj2
      have := hj3.length_le
      omega
/-- Two rising lists of the same numbers. -/
theorem rise_ext : ∀ (a b : List Int), a.Pairwise (· < ·) → b.Pairwise (· < ·) → (∀ q, q ∈ a ↔ q ∈ b) → a = b
  | [], [], _, _, _ => rfl
  | [], y :: b, _, _, h => absurd ((h y).2 (by simp)) (by simp)
  | y :: a, [], _, _, h => absurd ((h y).1 (by simp)) (by simp)
  | x :: a, y :: b, ha, hb, h => by
    obtain ⟨h1, h2⟩ := List.pairwise_cons.1 ha
    obtain ⟨h3, h4⟩ := List.pairwise_cons.1 hb
    have e : x = y := by
      rcases List.mem_cons.1 ((h x).1 (by simp)) with e | e
      · exact e
      · rcases List.mem_cons.1 ((h y).2 (by simp)) with e2 | e2
        · exact e2.symm
        · have := h1 y e2; have := h3 x e; omega
    subst e
    rw [rise_ext a b h2 h4 (fun q => by
      have := h q
      simp only [List.mem_cons] at this
      constructor
      · intro hq
        rcases this.1 (.inr hq) with rfl | h5
        · have := h1 q hq; omega
        · exact h5
      · intro hq
        rcases this.2 (.inr hq) with rfl | h5
        · have := h3 q hq; omega
        · exact h5)]
theorem inOrder_perm (r : List Int) : (inOrder r).Perm r := List.mergeSort_perm _ _
theorem inOrder_le (r : List Int) : (inOrder r).Pairwise (· ≤ ·) := by
  have := List.pairwise_mergeSort (le := fun x y : Int => decide (x ≤ y)) (fun a b c h1 h2 => by simp at *; omega) (fun a b => by simp; omega) r
  exact this.imp (fun h => by simpa using h)
theorem inOrder_lt {r : List Int} (h : r.Nodup) : (inOrder r).Pairwise (· < ·) := by
  have h1 := inOrder_le r
  have h2 : (inOrder r).Nodup := (inOrder_perm r).nodup_iff.2 h
  exact (h1.and h2).imp (fun h => by have := h.1; have := h.2; omega)
/-- The patterns that end a text, in their order. -/
def patT (k : Nat) : List (List Int) → List Int → List Int
  | [], _ => []
  | p :: r, s => (if p <:+ s then [(k : Int)] else []) ++ patT (k + 1) r s
theorem mem_patT (s : List Int) : ∀ (l : List (List Int)) (k : Nat) (q : Int), q ∈ patT k l s ↔ ∃ (i : Nat) (p : List Int), q = ((k + i : Nat) : Int) ∧ l[i]? = some p ∧ p <:+ s
  | [], k, q => by simp [patT]
  | p :: r, k, q => by
    rw [patT, List.mem_append, mem_patT s r]
    constructor
    · rintro (h | ⟨i, p', rfl, hi, h2⟩)
      · split at h
        · rename_i e
          rw [List.mem_singleton] at h
          exact ⟨0, p, by simpa using h, by simp, e⟩
        · simp at h
      · exact ⟨i + 1, p', by omega, by simpa using hi, h2⟩
    · rintro ⟨i, p', rfl, hi, h2⟩
      cases i with
      | zero =>
        simp at hi
        subst hi
        left; rw [if_pos h2]; simp
      | succ i => exact .inr ⟨i, p', by omega, by simpa using hi, h2⟩
theorem patT_rise (s : List Int) : ∀ (l : List (List Int)) (k : Nat), (patT k l s).Pairwise (· < ·)
  | [], k => List.Pairwise.nil
  | p :: r, k => by
    rw [patT, List.pairwise_append]
    refine ⟨by split <;> simp, patT_rise s r _, ?_⟩
    intro a ha b hb
    obtain ⟨i, p', rfl, -, -⟩ := (mem_patT s r (k + 1) b).1 hb
    split at ha
    · rw [List.mem_singleton] at ha; subst ha; omega
    · simp at ha
theorem suf_patT {ts l : List (List Int)} (hp : ∀ p ∈ l, p ∈ ts) (hne : ∀ p ∈ l, p ≠ []) (h0 : [] ∈ ts) {u : List Int} (hu : u ∈ ts) (d : Nat) (hd : u.length < d) : inOrder (sufT ts l d u) = patT 0 l u := by
  refine rise_ext _ _ (inOrder_lt (nodup_sufT hp h0 d u hu hd)) (patT_rise u l 0) (fun q => ?_)
  rw [(inOrder_perm _).mem_iff, mem_sufT hp h0 q d u hu hd, mem_patT]
  constructor
  · rintro ⟨i, p, rfl, h1, -, h2⟩; exact ⟨i, p, by simp, h1, h2⟩
  · rintro ⟨i, p, rfl, h1, h2⟩; exact ⟨i, p, by simp, h1, hne p (List.mem_of_getElem? h1), h2⟩
/-- Each pattern is a node's text. -/
theorem tsAdd_mem (pl : List Int) : ∀ (ts : List (List Int)) (s : List Int), (∀ u ∈ ts, u ∈ tsAdd ts s pl) ∧ (s ∈ ts → s ++ pl ∈ tsAdd ts s pl) := by
  induction pl with
  | nil => intro ts s; exact ⟨fun u h => h, fun h => by simpa [tsAdd] using h⟩
  | cons c r ih =>
    intro ts s
    rw [tsAdd]
    split
    · rename_i hm
      obtain ⟨h1, h2⟩ := ih ts (s ++ [c])
      exact ⟨h1, fun _ => by have := h2 hm; simpa using this⟩
    · obtain ⟨h1, h2⟩ := ih (ts ++ [s ++ [c]]) (s ++ [c])
      exact ⟨fun u hu => h1 u (List.mem_append_left _ hu), fun _ => by have := h2 (by simp); simpa using this⟩
theorem tsAll_mem (r : List (List Int)) : ∀ (ts : List (List Int)), [] ∈ ts → (∀ u ∈ ts, u ∈ tsAll ts r) ∧ ∀ p ∈ r, p ∈ tsAll ts r := by
  induction r with
  | nil => intro ts h0; exact ⟨fun u h => h, by simp⟩
  | cons p r ih =>
    intro ts h0
    obtain ⟨h1, h2⟩ := tsAdd_mem p ts []
    obtain ⟨h3, h4⟩ := ih (tsAdd ts [] p) (h1 _ h0)
    rw [tsAll]
    refine ⟨fun u hu => h3 u (h1 u hu), fun q hq => ?_⟩
    rcases List.mem_cons.1 hq with rfl | hq
    · exact h3 _ (by simpa using h2 h0)
    · exact h4 q hq
theorem textsOf_mem (l : List (List Int)) : ∀ p ∈ l, p ∈ textsOf l := (tsAll_mem l [[]] (by simp)).2
end Go.Proofs.Ytgfmplhpoblleaa.FailW
end
section
/- Rows that a call writes down. -/
namespace Go.Proofs.Ytgfmplhpoblleaa.FailW
open Go.RowKit Go.Shelf Go.Lib Go.Proofs Go.Proofs.YtgfmplhpoblleaaW.PrintWords Go.Proofs.YtgfmplhpoblleaaW.PrintLast Go.Proofs.YtgfmplhpoblleaaW.PrintMore Go.Proofs.Ytgfmplhpoblleaa.PRank Go.Proofs.Ytgfmplhpoblleaa.PFB Go.Proofs.Ytgfmplhpoblleaa.RankW Go.Proofs.Ytgfmplhpoblleaa.SortOwn Go.Proofs.Ytgfmplhpoblleaa
set_option linter.unusedVariables false
set_option linter.unusedSimpArgs false
theorem lit_ints {W : World} {b : Nat} (l : List Int) {ty : TypeId} (h : W.heap[b]? = some (.cells (encI l).toArray ty (0, 0))) (hl : l.length ≤ 1000000) : Kd.C (Kd.int .i64) W (some ⟨b, 0, none⟩) l.length l := by
  refine ⟨rfl, by omega, fun _ => ⟨_, rfl, fun j x hj => ⟨[.int .i64 x], rfl, rfl, ?_⟩⟩⟩
  intro i u hi
  cases i with
  | zero =>
    simp at hi
    subst hi
    have h1 : (Kd.int IntKind.i64).sz = 1 := rfl
    rw [h1]
    have e : (Addr.mk b 0 none).add (j * 1 + 0) = ⟨b, j, none⟩ := by unfold Addr.add; split <;> simp_all
    rw [e, blk_cell h]
    simp [encI, encs, hj]
  | succ i => simp at hi
theorem lit_rows {W : World} {b : Nat} (L : List (Nat × List Int)) {ty : TypeId} (h : W.heap[b]? = some (.cells (L.map fun p => Value.slice (some ⟨p.1, 0, none⟩) p.2.length p.2.length).toArray ty (0, 0))) (hl : L.length ≤ 1000000)
    (hh : ∀ p ∈ L, p.2.length ≤ 1000000 ∧ ∃ ty', W.heap[p.1]? = some (.cells (encI p.2).toArray ty' (0, 0))) : Kd.C (Kd.slice 3 (Kd.int .i64)) W (some ⟨b, 0, none⟩) L.length (L.map (·.2)) := by
  refine ⟨by simp, by omega, fun _ => ⟨_, rfl, fun j x hj => ?_⟩⟩
  rw [List.getElem?_map, Option.map_eq_some_iff] at hj
  obtain ⟨p, hp, rfl⟩ := hj
  obtain ⟨h1, ty', h2⟩ := hh p (List.mem_of_getElem? hp)
  refine ⟨[.slice (some ⟨p.1, 0, none⟩) p.2.length p.2.length], rfl, ⟨_, _, rfl, Nat.le_refl _, lit_ints p.2 h2 h1⟩, ?_⟩
  intro i u hi
  cases i with
  | zero =>
    simp at hi
    subst hi
    have h1 : (Kd.slice 3 (Kd.int IntKind.i64)).sz = 1 := rfl
    rw [h1]
    have e : (Addr.mk b 0 none).add (j * 1 + 0) = ⟨b, j, none⟩ := by unfold Addr.add; split <;> simp_all
    rw [e, blk_cell h]
    simp [hp]
  | succ i => simp at hi
end Go.Proofs.Ytgfmplhpoblleaa.FailW
end
section
/- Tries and links of the patterns that the statements let in; the example of the document. -/
namespace Go.Proofs.Ytgfmplhpoblleaa.FailW
open Go.RowKit Go.Shelf Go.Lib Go.Proofs Go.Proofs.YtgfmplhpoblleaaW.PrintWords Go.Proofs.YtgfmplhpoblleaaW.PrintLast Go.Proofs.YtgfmplhpoblleaaW.PrintMore Go.Proofs.Ytgfmplhpoblleaa.PRank Go.Proofs.Ytgfmplhpoblleaa.PFB Go.Proofs.Ytgfmplhpoblleaa.RankW Go.Proofs.Ytgfmplhpoblleaa.SortOwn Go.Proofs.Ytgfmplhpoblleaa
open Go.Proofs.Ytgfmplhpoblleaa.Cmps hiding dedup
set_option linter.unusedVariables false
set_option linter.unusedSimpArgs false

/-- Patterns that the statements let in. -/
structure In (B : Nat) (l : List (List Int)) : Prop where
  len : l.length ≤ B
  all : ∀ u ∈ l, u.length ≤ B
theorem In.total {B : Nat} {l : List (List Int)} (h : In B l) : total l ≤ l.length * B := by
  obtain ⟨h1, h2⟩ := h
  clear h1
  induction l with
  | nil => simp [FailW.total]
  | cons a r ih =>
    have := ih (fun u hu => h2 u (List.mem_cons_of_mem _ hu))
    have h3 := h2 a (by simp)
    simp [FailW.total] at this ⊢
    rw [Nat.add_mul]; omega
theorem In.bnd {l : List (List Int)} (h : In 20 l) : Bnd l ∧ FailW.total l ≤ 400 := by
  have := h.total
  have h1 := h.len
  have h2 : l.length * 20 ≤ 20 * 20 := Nat.mul_le_mul_right _ h1
  exact ⟨⟨by omega, fun u hu => by have := h.all u hu; omega⟩, by omega⟩
theorem In.mono {B C : Nat} {l : List (List Int)} (h : In B l) (hBC : B ≤ C) : In C l := ⟨Nat.le_trans h.len hBC, fun u hu => Nat.le_trans (h.all u hu) hBC⟩
theorem kl_trie {l : List (List Int)} (h : In 20 l) : Sp (trieOf l) (textsOf l) ∧ Good (trieOf l) ∧ (trieOf l).length ≤ 1000 ∧ Bnd (textsOf l) ∧ (textsOf l).length = (trieOf l).length := by
  have ht := trie_tr l
  have hb := h.bnd
  have hB := textsOf_bnd hb.1 (by omega)
  have hlen := ht.sp.len
  have := hB.1
  have := h.len
  exact ⟨ht.sp, ht.good (by omega) (by omega), by omega, hB, hlen⟩

/-- A trie and its links, made of patterns that the statements let in. -/
structure Made (w : World) (l : List (List Int)) (t p : Addr) (s : St) : Prop where
  tr : TrieAt w t (trieOf l)
  lk : LinksAt w p t (trieOf l) s.fl s.ol
  fin : LFin (trieOf l) (textsOf l) s
theorem Made.below {w w' : World} {l : List (List Int)} {t p : Addr} {s : St} (h : Made w l t p s) (hg : Go.RowKit.Below w.heap.size w w') : Made w' l t p s := ⟨h.tr.below hg, h.lk.below hg, h.fin⟩

/-- The document's example: two patterns. -/
def exP : List (List Int) := [[1, 2, 3], [2, 3]]
def exS : St := ⟨[0, 0, 4, 5, 0, 0], [-1, -1, -1, 3, -1, 5], [0, 1, 4, 2, 5, 3]⟩
theorem ex_links : linksF (trieOf exP) = some exS := by kernel_rfl
theorem ex_in : In 20 exP := ⟨by decide, by decide⟩
theorem ex_pat : patF (trieOf exP) exS.fl exS.ol 10 (outOf exS.fl exS.ol 3) [] = some [0, 1] := by kernel_rfl
theorem ex_order : inOrder [0, 1] = [0, 1] := by
  refine rise_ext _ _ (inOrder_lt (by decide)) (by decide) (fun q => (inOrder_perm _).mem_iff)
/-- What the example comes to. -/
structure Ex (l : List (List Int)) (s : St) : Prop where
  hin : In 20 l
  hlk : linksF (trieOf l) = some s
  he : l.any (·.isEmpty) = false
  h5 : failOf s.fl 3 = 5
  hp : patF (trieOf l) s.fl s.ol 10 (outOf s.fl s.ol 3) [] = some [0, 1]
theorem ex : Ex exP exS := ⟨ex_in, ex_links, by decide, by kernel_rfl, ex_pat⟩
theorem Ex.fin {l : List (List Int)} {s : St} (h : Ex l s) : LFin (trieOf l) (textsOf l) s := by
  obtain ⟨s', h1, h2⟩ := links_ok (trie_tr l).sp
  rw [h.hlk] at h1
  obtain rfl := Option.some.inj h1
  exact h2
theorem new_calls_n (A : Option Addr) (n c : Nat) (l : List (List Int)) (w : World) (hn : l.length = n) (hC : Kd.C kRows w A n l) (hlen : l.length ≤ 65536) (htot : FailW.total l ≤ 1000000) (he : l.any (·.isEmpty) = false) :
    Calls Try.prog 36 #[.slice A n c] w fun e w' => ∃ g, e = .returned (.tuple #[.pointer (some ⟨g, 0, none⟩), .int .i64 0]) ∧ TrieAt w' ⟨g, 0, none⟩ (trieOf l) ∧ Go.RowKit.Below w.heap.size w w' := by
  subst hn
  exact new_calls A c l w hC hlen htot he
set_option maxHeartbeats 4000000 in
set_option maxRecDepth 100000 in
theorem awake23_calls (w : World) : Calls Try.prog 33 #[] w fun e w' => e = .returned (.bool true) ∧ Go.RowKit.Below w.heap.size w w' := by
  have HB := Aside0.mk (Go.RowKit.Below.refl w.heap.size w)
  obtain ⟨W1, hW1⟩ : ∃ W1, W1 = ((w.alloc (Obj.cells #[Value.int IntKind.i64 1, Value.int IntKind.i64 2, Value.int IntKind.i64 3] 3)).alloc (Obj.cells #[Value.int IntKind.i64 2, Value.int IntKind.i64 3] 3)).alloc (Obj.cells #[Value.slice (some { block := w.heap.size, off := 0 }) 3 3, Value.slice (some { block := w.heap.size + 1, off := 0 }) 2 2] 23) := ⟨_, rfl⟩
  have hC : Kd.C (Kd.slice 3 (Kd.int .i64)) W1 (some ⟨w.heap.size + 1 + 1, 0, none⟩) 2 exP := by
    refine lit_rows (ty := 23) [(w.heap.size, [1, 2, 3]), (w.heap.size + 1, [2, 3])] ?_ (by simp) ?_
    · rw [hW1]; simp only [heap_al, sz_al]; simp
    · intro p hp
      simp only [List.mem_cons, List.not_mem_nil, or_false] at hp
      rcases hp with rfl | rfl
      · refine ⟨by simp, 3, ?_⟩
        rw [hW1]; simp only [heap_al, sz_al]; simp [nn2, encI, encs]
      · refine ⟨by simp, 3, ?_⟩
        rw [hW1]; simp only [heap_al, sz_al]; simp [nn2, encI, encs]
  have hX := ex
  have hl2 : exP.length = 2 := rfl
  generalize exP = l at hC hX hl2
  generalize exS = s at hX
  have HC := Aside0.mk hC
  have HW := Aside0.mk hW1
  have HX := Aside0.mk hX
  have HL2 := Aside0.mk hl2
  have h5 := hX.h5
  clear hC hX hl2 hW1
  go_enter Try.func33, Try.ntmps33
  go_wp2_with (first
    | (go_at_call 36; rw [← HW.out]; have n_ := Aside0.mk (show Go.RowKit.Below w.heap.size w W1 by rw [HW.out]; repeat (first | (with_reducible first | exact HB.out | apply below_alloc | apply pw_below_drewN | apply below_drew1) | exact HB.out)); clear HB; have HB := n_; go_loud (refine (new_calls_n (some ⟨w.heap.size + 1 + 1, 0, none⟩) 2 2 l W1 HL2.out HC.out (by have := HL2.out; omega) (by have := HX.out.hin.bnd.2; omega) HX.out.he).mono ?_); rintro e w4 ⟨g, rfl, hT, hb⟩; have HT := Aside0.mk hT; have n_ := Aside0.mk (below_step (by repeat (first | (with_reducible first | exact HB.out | apply below_alloc | apply pw_below_drewN | apply below_drew1) | exact HB.out)) hb); clear HB; have HB := n_; clear n_; clear hT hb)
    | (go_at_call 37; refine (fnew_calls _ ⟨g, 0, none⟩ (trieOf l) (textsOf l) s HT.out (kl_trie HX.out.hin).1 (kl_trie HX.out.hin).2.1 (by have := (kl_trie HX.out.hin).2.2.1; omega) HX.out.hlk).mono ?_; rintro e w5 ⟨p, od', rfl, h1, h2, h3, hb⟩; have HM := Aside0.mk (show Made w5 l ⟨g, 0, none⟩ ⟨p, 0, none⟩ s from ⟨HT.out.below hb, h1, HX.out.fin⟩); have n_ := Aside0.mk (below_step (by repeat (first | (with_reducible first | exact HB.out | apply below_alloc | apply pw_below_drewN | apply below_drew1) | exact HB.out)) hb); clear HB; have HB := n_; clear n_; clear HT h1 h2 h3 hb)
    | (go_at_call 43; go_loud (refine (fail_calls' ⟨p, 0, none⟩ ⟨g, 0, none⟩ (trieOf l) s.fl s.ol 3 _ HM.out.lk).mono ?_); rintro e w6 ⟨rfl, hg⟩; rw [h5]; have m_ := Aside0.mk (HM.out.below hg.below); clear HM; have HM := m_; clear m_; have hb := hg.below; have n_ := Aside0.mk (below_step (by repeat (first | (with_reducible first | exact HB.out | apply below_alloc | apply pw_below_drewN | apply below_drew1) | exact HB.out)) hb); clear HB; have HB := n_; clear n_; clear hg hb)
    | (go_at_call 47; go_loud (refine (patterns_calls ⟨p, 0, none⟩ ⟨g, 0, none⟩ (trieOf l) s.fl s.ol 3 10 [0, 1] _ HM.out.lk (kl_trie HX.out.hin).2.1 (HX.out.fin.oll.trans HX.out.fin.fll.symm) (by omega) HX.out.hp).mono ?_); rw [ex_order]; rintro e w7 ⟨v, rfl, hR, hb⟩; obtain ⟨A7, c7, rfl, hl7, hC7⟩ := Kd.R_reads hR; have HC7 := Aside0.mk (And.intro hl7 hC7); have n_ := Aside0.mk (below_step (by repeat (first | (with_reducible first | exact HB.out | apply below_alloc | apply pw_below_drewN | apply below_drew1) | exact HB.out)) hb); clear HB; have HB := n_; clear n_; clear hb hR hl7 hC7)
    | (go_at_call 18; go_loud (refine (paronymref01_Same.calls 6000000 A7 c7 [0, 1] (some ⟨w7.heap.size, 0, none⟩) 2 [0, 1] true _ (Kd.C_alloc HC7.out.2 _) HC7.out.1 (lit_ints [0, 1] (heap_alloc_new _ _) (by simp)) (by simp) (RefS.ref_same [0, 1] [0, 1] (by simp) (by simp) 6000000 (by simp))).mono ?_); rintro e w8 ⟨rfl, ⟨nd, rfl⟩⟩)
    | (go_at_call 37; refine (fnew_nil _).mono ?_; rintro e w9 ⟨rfl, hg⟩; have hb := hg.below; have n_ := Aside0.mk (below_step (by repeat (first | (with_reducible first | exact HB.out | apply below_alloc | apply pw_below_drewN | apply below_drew1) | exact HB.out)) hb); clear HB; have HB := n_; clear n_; clear hg hb))
  go_ret
  exact ⟨by first | rfl | simp, (by repeat (first | (with_reducible first | exact HB.out | apply below_alloc | apply pw_below_drewN | apply below_drew1) | exact HB.out))⟩
end Go.Proofs.Ytgfmplhpoblleaa.FailW
end
section
/- The statement FailFew, walked. -/
namespace Go.Proofs.Ytgfmplhpoblleaa.FailW
open Go.RowKit Go.Shelf Go.Lib Go.Proofs Go.Proofs.YtgfmplhpoblleaaW.PrintWords Go.Proofs.YtgfmplhpoblleaaW.PrintLast Go.Proofs.YtgfmplhpoblleaaW.PrintMore Go.Proofs.Ytgfmplhpoblleaa.PRank Go.Proofs.Ytgfmplhpoblleaa.PFB Go.Proofs.Ytgfmplhpoblleaa.RankW Go.Proofs.Ytgfmplhpoblleaa.SortOwn Go.Proofs.Ytgfmplhpoblleaa
open Go.Proofs.Ytgfmplhpoblleaa.Cmps hiding dedup
set_option linter.unusedVariables false
set_option linter.unusedSimpArgs false

theorem mdepth_at {w : World} {l : List (List Int)} {t p : Addr} {s : St} (h : Made w l t p s) (hl : In 20 l) {m : Nat} {u : List Int} (hu : (textsOf l)[m]? = some u) :
    Calls Try.prog 41 #[.pointer (some t), .int .i64 m] w fun e w' => e = .returned (.int .i64 (u.length : Int)) ∧ Grows w w' := by
  have h1 := depth_calls t (trieOf l) (m : Int) w h.tr
  have hS := (kl_trie hl).1
  have hm := hS.lt hu
  rw [nodeOf_nat hm, hS.depth m _ u (List.getElem?_eq_getElem hm) hu] at h1
  exact h1
end Go.Proofs.Ytgfmplhpoblleaa.FailW
end
section
-- printed by the kit's print.py over several roots (printroots.sh): no hand has typed this
namespace Go.Proofs.Ytgfmplhpoblleaa.PFB
open Go.RowKit Go.Proofs.YtgfmplhpoblleaaW.PrintWords Go.Proofs.YtgfmplhpoblleaaW.PrintLast Go.Proofs.YtgfmplhpoblleaaW.PrintMore Go.Proofs.Ytgfmplhpoblleaa.PRank
attribute [local go_sem] max2_int min2_int max_two min_two max_three min_three max_four min_four   -- for this text's walks alone
set_option linter.unusedVariables false
set_option linter.unusedSimpArgs false

/-! ### paronymref23_Patterns: function 48 -/
def paronymref23_Patterns.l0 : Nat → List (List Int) → List Int → List Int → Int → Option (List Int)
  | 0, _, _, _, _ => none
  | k + 1, x0, x1, x5, x6 => if x6 < (x0.length : Int) then (if 0 ≤ x6 then (if ((rd_L1 x0 x6).length : Int) ≤ (x1.length : Int) then (if 0 ≤ (wrap64 ((x1.length : Int) - ((rd_L1 x0 x6).length : Int))) then (if (wrap64 ((x1.length : Int) - ((rd_L1 x0 x6).length : Int))) ≤ (x1.length : Int) then ((paronymref01_Same.f k (rd_L1 x0 x6) (x1.drop ((wrap64 ((x1.length : Int) - ((rd_L1 x0 x6).length : Int))) : Int).toNat)).bind fun t170 => (if t170 = true then (if x5.length < 17592186044416 then (paronymref23_Patterns.l0 k x0 x1 (x5 ++ [x6]) (wrap64 (x6 + 1))) else (none)) else (paronymref23_Patterns.l0 k x0 x1 x5 (wrap64 (x6 + 1))))) else (none)) else (none)) else (paronymref23_Patterns.l0 k x0 x1 x5 (wrap64 (x6 + 1)))) else (none)) else (some x5)
def paronymref23_Patterns.f (k : Nat) (l0 : List (List Int)) (l1 : List Int) : Option (List Int) := paronymref23_Patterns.l0 k l0 l1 ([] : List Int) 0
theorem paronymref23_Patterns.mono_l : ∀ k, (∀ y0 y1 y2 y3, LeO (paronymref23_Patterns.l0 k y0 y1 y2 y3) (paronymref23_Patterns.l0 (k + 1) y0 y1 y2 y3))
  | 0 => fun _ _ _ _ r h => by simp [paronymref23_Patterns.l0] at h
  | k + 1 => by
    have ih0 := paronymref23_Patterns.mono_l k
    · intro y0 y1 y2 y3
      unfold paronymref23_Patterns.l0
      repeat' first
      | (with_reducible exact ih0 _ _ _ _)
      | (with_reducible exact paronymref01_Same.mono _ _ _)
      | (with_reducible exact LeO.refl _)
      | (with_reducible exact LeO.none _)
      | (with_reducible refine LeO.ite ?_ ?_)
      | (with_reducible refine LeO.bind ?_ (fun _ => ?_))
      | exact ih0 _ _ _ _
      | exact paronymref01_Same.mono _ _ _
      | exact LeO.none _
      | refine LeO.ite ?_ ?_
      | refine LeO.bind ?_ (fun _ => ?_)
theorem paronymref23_Patterns.mono : ∀ a0 a1 k, LeO (paronymref23_Patterns.f k a0 a1) (paronymref23_Patterns.f (k + 1) a0 a1) := by
  intro a0 a1 k
  have ih0 := paronymref23_Patterns.mono_l k
  unfold paronymref23_Patterns.f
  repeat' first
      | (with_reducible exact ih0 _ _ _ _)
      | (with_reducible exact paronymref01_Same.mono _ _ _)
      | (with_reducible exact LeO.refl _)
      | (with_reducible exact LeO.none _)
      | (with_reducible refine LeO.ite ?_ ?_)
      | (with_reducible refine LeO.bind ?_ (fun _ => ?_))
      | exact ih0 _ _ _ _
      | exact paronymref01_Same.mono _ _ _
      | exact LeO.none _
      | refine LeO.ite ?_ ?_
      | refine LeO.bind ?_ (fun _ => ?_)
set_option maxHeartbeats 8000000 in
set_option maxRecDepth 100000 in
theorem paronymref23_Patterns.calls (k : Nat) (A0 : Option Addr) (c0 : Nat) (l0 : List (List Int)) (A1 : Option Addr) (c1 : Nat) (l1 : List Int) (r : List Int) (w : World) (hr0 : Kd.C (Kd.slice 3 (Kd.int .i64)) w A0 l0.length l0) (hc0 : l0.length ≤ c0) (hr1 : Kd.C (Kd.int .i64) w A1 l1.length l1) (hc1 : l1.length ≤ c1) (h : paronymref23_Patterns.f k l0 l1 = some r) :
    Calls Try.prog 48 #[.slice A0 l0.length c0, .slice A1 l1.length c1] w fun e w' => ∃ v0_ : Value, e = .returned (v0_) ∧ Kd.R (Kd.int .i64) 3 w' w.heap.size (fun _ => True) v0_ r ∧ Below w.heap.size w w' := by
  have HR0 := Aside0.mk hr0
  have HC0 := Aside0.mk hc0
  clear hr0 hc0
  have HR1 := Aside0.mk hr1
  have HC1 := Aside0.mk hc1
  clear hr1 hc1
  have HB := Aside0.mk (Below.refl w.heap.size w)
  have H : (paronymref23_Patterns.l0 k l0 l1 ([] : List Int) 0) = some r := h
  clear h
  have H' := Aside0.mk H
  clear H
  go_enter Try.func48, Try.ntmps48
  go_wp2
  repeat (go_quiet (fail); try go_wp2)
  go_loopg [5, 6] k (fun kq v5 v6 w' => ∃ (x5_1 : List Int) (x6_1 : Int), v6 = .int .i64 x6_1 ∧ Aside0 (paronymref23_Patterns.l0 kq l0 l1 x5_1 x6_1 = some r) ∧ Aside0 (kq ≤ k) ∧ Aside0 (Kd.R (Kd.int .i64) 3 w' w.heap.size (fun _ => True) v5 x5_1) ∧ Aside0 (Below w.heap.size w w'))
  case atStart => exact ⟨(([] : List Int)), (0), (by first | rfl | (simp; done) | (simp [*]; done)), H', ⟨Nat.le_refl _⟩, ⟨by first | exact Kd.R_nil _ _ _ _ _ | exact Kd.N_nil _ _ _ _ _ | exact Kd.V_nil _ _ _ _ _ | exact Kd.Q_nil _ _ _ _ _ | exact Kd.S_nil _ _ _ _ _⟩, ⟨by repeat (first | (with_reducible first | exact HB.out | apply below_alloc | apply pw_below_drewN | apply below_drew1) | exact HB.out)⟩⟩
  case round =>
    clear H'
    try clear c1
    try clear p2
    obtain ⟨x5_1, x6_1, rfl, HA, HK1, HO_5, HB⟩ := hrel
    cases gk with
    | zero => exact absurd HA.out (by simp [paronymref23_Patterns.l0])
    | succ k1 =>
      have H := HA.out
      clear HA
      simp only [paronymref23_Patterns.l0] at H
      by_cases c3 : x6_1 < (l0.length : Int)
      · rw [if_pos c3] at H
        have c3b0 : decide (x6_1 < (l0.length : Int)) = true := decide_eq_true c3
        clear c3
        by_cases c4 : 0 ≤ x6_1
        · rw [if_pos c4] at H
          have c4b0 : decide (0 ≤ x6_1) = true := decide_eq_true c4
          clear c4
          by_cases c5 : ((rd_L1 l0 x6_1).length : Int) ≤ (l1.length : Int)
          · rw [if_pos c5] at H
            have c5b0 : decide (((rd_L1 l0 x6_1).length : Int) ≤ (l1.length : Int)) = true := decide_eq_true c5
            have c5b1 : decide ((rd_L1 l0 x6_1).length ≤ l1.length) = true := decide_eq_true (Int.ofNat_le.mp c5)
            clear c5
            obtain ⟨ji6, hji6⟩ : ∃ j_ : Int, (wrap64 ((l1.length : Int) - ((rd_L1 l0 x6_1).length : Int))) = j_ := ⟨_, rfl⟩
            replace H : (if 0 ≤ (ji6) then (if (ji6) ≤ (l1.length : Int) then ((paronymref01_Same.f k1 (rd_L1 l0 x6_1) (l1.drop ((ji6) : Int).toNat)).bind fun t170 => (if t170 = true then (if x5_1.length < 17592186044416 then (paronymref23_Patterns.l0 k1 l0 l1 (x5_1 ++ [x6_1]) (wrap64 (x6_1 + 1))) else (none)) else (paronymref23_Patterns.l0 k1 l0 l1 x5_1 (wrap64 (x6_1 + 1))))) else (none)) else (none)) = some r := by first | (rw [hji6] at H; exact H) | (simp only [hji6] at H ⊢; exact H)
            have hji6w : (IntKind.i64.wrap ((l1.length : Int) - ((rd_L1 l0 x6_1).length : Int))) = ji6 := (i64_w _).trans hji6
            by_cases c7 : 0 ≤ (ji6)
            · rw [if_pos c7] at H
              have c7b0 := eq_true c7
              have c7b1 : decide (0 ≤ (ji6)) = true := decide_eq_true c7
              clear c7
              by_cases c8 : (ji6) ≤ (l1.length : Int)
              · rw [if_pos c8] at H
                have c8b0 := eq_true c8
                have c8b1 : decide ((ji6) ≤ (l1.length : Int)) = true := decide_eq_true c8
                clear c8
                replace H := Option.bind_eq_some_iff.mp H
                obtain ⟨t170, A90, H⟩ := H
                replace H : (if t170 = true then (if x5_1.length < 17592186044416 then (paronymref23_Patterns.l0 k1 l0 l1 (x5_1 ++ [x6_1]) (wrap64 (x6_1 + 1))) else (none)) else (paronymref23_Patterns.l0 k1 l0 l1 x5_1 (wrap64 (x6_1 + 1)))) = some r := H
                have A9 := Aside0.mk A90
                clear A90
                by_cases c10 : t170 = true
                · subst c10
                  have H1 : (if x5_1.length < 17592186044416 then (paronymref23_Patterns.l0 k1 l0 l1 (x5_1 ++ [x6_1]) (wrap64 (x6_1 + 1))) else (none)) = some r := by rw [if_pos rfl] at H; exact H
                  clear H
                  have H := H1
                  clear H1
                  by_cases c11 : x5_1.length < 17592186044416
                  · rw [if_pos c11] at H
                    have LMc11 := Aside0.mk c11
                    clear c11
                    obtain ⟨y171, hy171⟩ : ∃ y_ : List Int, y_ = (x5_1 ++ [x6_1]) := ⟨_, rfl⟩
                    replace H : (paronymref23_Patterns.l0 k1 l0 l1 y171 (wrap64 (x6_1 + 1))) = some r := by first | (rw [hy171]; with_reducible exact H) | (have H2_ := (Option.bind_some _ _).symm.trans H; rw [hy171]; with_reducible exact H2_) | (have H2_ := (Option.bind_some _ _).symm.trans H; with_reducible exact H2_) | with_reducible exact H | (rw [hy171]; exact H) | exact H
                    have Ny171 := Aside0.mk hy171
                    clear hy171
                    have H' := Aside0.mk H
                    clear H
                    have p167 : 0 ≤ (x6_1 : Int) := of_decide_eq_true (by first | (with_reducible assumption) | assumption)
                    have q167 : x6_1 < (l0.length : Int) := of_decide_eq_true (by first | (with_reducible assumption) | assumption)
                    obtain ⟨ad167, A167_0, c167_0, e167, hx167_0, hl167_0, hi167_0⟩ := at_L1 HR0.out x6_1 p167 q167
                    cases e167
                    replace hx167_0 := (HB.out.cell (World.block_lt_of_cell? w _ hx167_0)).trans hx167_0
                    have HR167_0 := Aside0.mk hi167_0
                    have HC167_0 := Aside0.mk hl167_0
                    clear hi167_0 hl167_0
                    replace p167 := eq_true p167
                    replace q167 := eq_true q167
                    have p168 : 0 ≤ (x6_1 : Int) := of_decide_eq_true (by first | (with_reducible assumption) | assumption)
                    have q168 : x6_1 < (l0.length : Int) := of_decide_eq_true (by first | (with_reducible assumption) | assumption)
                    obtain ⟨ad168, A168_0, c168_0, e168, hx168_0, hl168_0, hi168_0⟩ := at_L1 HR0.out x6_1 p168 q168
                    obtain rfl : ad167 = ad168 := (by injection e168)
                    replace hx168_0 := (HB.out.cell (World.block_lt_of_cell? w _ hx168_0)).trans hx168_0
                    have HR168_0 := Aside0.mk hi168_0
                    have HC168_0 := Aside0.mk hl168_0
                    clear hi168_0 hl168_0
                    replace p168 := eq_true p168
                    replace q168 := eq_true q168
                    have ea_ := Option.some.inj (hx167_0.symm.trans hx168_0)
                    injection ea_ with ea_ en_ ec_
                    subst ea_
                    subst ec_
                    clear en_
                    obtain ⟨i012, hi012, _, hsz12, _⟩ := info_parts info3
                    obtain ⟨A12, hcut12, hA12, hC12⟩ := print_drop_of (P := Try.prog) (Value.int .i64) 0 23 3 .i64 Try.underlying23 hi012 hsz12 A1 c1 l1 (ji6) (of_decide_eq_true (by first | (with_reducible assumption) | assumption)) (of_decide_eq_true (by first | (with_reducible assumption) | assumption)) HC1.out
                    have HR169 := Aside0.mk (Kd.C_of_reads (h1 := fun _ => rfl) (hA12 _ (Kd.reads_of_C HR1.out)))
                    have HC169 := Aside0.mk hC12
                    clear hA12 hC12 hi012 hsz12
                    go_wp2_with (first | (go_at_call 18; (try rw [← List.length_drop (l := l1) (i := ji6.toNat)]); (with_reducible refine (paronymref01_Same.calls k1 _ _ (rd_L1 l0 x6_1) _ _ (l1.drop ((ji6) : Int).toNat) true _ ?side1 ?side2 ?side3 ?side4 A9.out).mono ?_); (case side1 => repeat (first | exact (Kd.C_below HR168_0.out HB.out) | (with_reducible refine Kd.C_alloc ?_ _) | (with_reducible refine Kd.C_drewN ?_ _) | (with_reducible refine Kd.C_drew ?_))); (case side2 => exact HC168_0.out); (case side3 => repeat (first | exact (Kd.C_below HR169.out HB.out) | (with_reducible refine Kd.C_alloc ?_ _) | (with_reducible refine Kd.C_drewN ?_ _) | (with_reducible refine Kd.C_drew ?_))); (case side4 => exact HC169.out); rintro e w' ⟨rfl, ⟨nd, rfl⟩⟩; (try first | exact ⟨rfl, _, World.drewN_drewN _ _ _⟩ | exact ⟨rfl, _, Eq.trans (World.drewN_drewN _ _ _) (congrArg (World.drewN _) (Nat.add_assoc _ _ _))⟩)) | ((with_reducible refine gate_builtin (b := .append) (xs := #[.tmp 36, .tmp 38]) rfl ?_); (try (refine gate_guard (by rfl) ?_; dsimp only)); at_builtin; refine Kd.R_append (Kd.int .i64) (w0 := w) w.heap.size rfl (.tmp 36) (.tmp 38) 23 3 (.int .i64 0) 8 rfl Try.underlying23 info3 rfl (by decide) (by omega) u5 x5_1 x6_1 [.int .i64 x6_1] (fun _ => True) (fun _ => False) rfl rfl ?aP (fun _ hk => hk.elim) ?aF ?aO ?aB ?aS ?aL ?_; (case aP => exact rfl); (case aB => exact (by repeat (first | (with_reducible first | exact HB.out | apply below_alloc | apply pw_below_drewN | apply below_drew1) | exact HB.out))); (case aF => exact (fun _ _ => trivial)); (case aO => exact (by (with_reducible repeat (first | apply Kd.R_alloc | apply Kd.R_drewN | apply Kd.R_drew)); exact HO_5.out)); (case aS => exact (below_size (by repeat (first | (with_reducible first | exact HB.out | apply below_alloc | apply pw_below_drewN | apply below_drew1) | exact HB.out)))); (case aL => have := LMc11.out; omega); intro v172 w13 ho hb hg hat; rw [← Ny171.out] at ho; have n0_ := Aside0.mk (hb); have n1_ := Aside0.mk (ho); clear HB; clear HO_5; have HB := n0_; have HO173 := n1_; clear n0_ n1_; clear ho hb hg hat))
                    (go_quiet (first | (go_at_call 18; (try rw [← List.length_drop (l := l1) (i := ji6.toNat)]); (with_reducible refine (paronymref01_Same.calls k1 _ _ (rd_L1 l0 x6_1) _ _ (l1.drop ((ji6) : Int).toNat) true _ ?side1 ?side2 ?side3 ?side4 A9.out).mono ?_); (case side1 => repeat (first | exact (Kd.C_below HR168_0.out HB.out) | (with_reducible refine Kd.C_alloc ?_ _) | (with_reducible refine Kd.C_drewN ?_ _) | (with_reducible refine Kd.C_drew ?_))); (case side2 => exact HC168_0.out); (case side3 => repeat (first | exact (Kd.C_below HR169.out HB.out) | (with_reducible refine Kd.C_alloc ?_ _) | (with_reducible refine Kd.C_drewN ?_ _) | (with_reducible refine Kd.C_drew ?_))); (case side4 => exact HC169.out); rintro e w' ⟨rfl, ⟨nd, rfl⟩⟩; (try first | exact ⟨rfl, _, World.drewN_drewN _ _ _⟩ | exact ⟨rfl, _, Eq.trans (World.drewN_drewN _ _ _) (congrArg (World.drewN _) (Nat.add_assoc _ _ _))⟩)) | ((with_reducible refine gate_builtin (b := .append) (xs := #[.tmp 36, .tmp 38]) rfl ?_); (try (refine gate_guard (by rfl) ?_; dsimp only)); at_builtin; refine Kd.R_append (Kd.int .i64) (w0 := w) w.heap.size rfl (.tmp 36) (.tmp 38) 23 3 (.int .i64 0) 8 rfl Try.underlying23 info3 rfl (by decide) (by omega) u5 x5_1 x6_1 [.int .i64 x6_1] (fun _ => True) (fun _ => False) rfl rfl ?aP (fun _ hk => hk.elim) ?aF ?aO ?aB ?aS ?aL ?_; (case aP => exact rfl); (case aB => exact (by repeat (first | (with_reducible first | exact HB.out | apply below_alloc | apply pw_below_drewN | apply below_drew1) | exact HB.out))); (case aF => exact (fun _ _ => trivial)); (case aO => exact (by (with_reducible repeat (first | apply Kd.R_alloc | apply Kd.R_drewN | apply Kd.R_drew)); exact HO_5.out)); (case aS => exact (below_size (by repeat (first | (with_reducible first | exact HB.out | apply below_alloc | apply pw_below_drewN | apply below_drew1) | exact HB.out)))); (case aL => have := LMc11.out; omega); intro v172 w13 ho hb hg hat; rw [← Ny171.out] at ho; have n0_ := Aside0.mk (hb); have n1_ := Aside0.mk (ho); clear HB; clear HO_5; have HB := n0_; have HO173 := n1_; clear n0_ n1_; clear ho hb hg hat)); try go_wp2_with (first | (go_at_call 18; (try rw [← List.length_drop (l := l1) (i := ji6.toNat)]); (with_reducible refine (paronymref01_Same.calls k1 _ _ (rd_L1 l0 x6_1) _ _ (l1.drop ((ji6) : Int).toNat) true _ ?side1 ?side2 ?side3 ?side4 A9.out).mono ?_); (case side1 => repeat (first | exact (Kd.C_below HR168_0.out HB.out) | (with_reducible refine Kd.C_alloc ?_ _) | (with_reducible refine Kd.C_drewN ?_ _) | (with_reducible refine Kd.C_drew ?_))); (case side2 => exact HC168_0.out); (case side3 => repeat (first | exact (Kd.C_below HR169.out HB.out) | (with_reducible refine Kd.C_alloc ?_ _) | (with_reducible refine Kd.C_drewN ?_ _) | (with_reducible refine Kd.C_drew ?_))); (case side4 => exact HC169.out); rintro e w' ⟨rfl, ⟨nd, rfl⟩⟩; (try first | exact ⟨rfl, _, World.drewN_drewN _ _ _⟩ | exact ⟨rfl, _, Eq.trans (World.drewN_drewN _ _ _) (congrArg (World.drewN _) (Nat.add_assoc _ _ _))⟩)) | ((with_reducible refine gate_builtin (b := .append) (xs := #[.tmp 36, .tmp 38]) rfl ?_); (try (refine gate_guard (by rfl) ?_; dsimp only)); at_builtin; refine Kd.R_append (Kd.int .i64) (w0 := w) w.heap.size rfl (.tmp 36) (.tmp 38) 23 3 (.int .i64 0) 8 rfl Try.underlying23 info3 rfl (by decide) (by omega) u5 x5_1 x6_1 [.int .i64 x6_1] (fun _ => True) (fun _ => False) rfl rfl ?aP (fun _ hk => hk.elim) ?aF ?aO ?aB ?aS ?aL ?_; (case aP => exact rfl); (case aB => exact (by repeat (first | (with_reducible first | exact HB.out | apply below_alloc | apply pw_below_drewN | apply below_drew1) | exact HB.out))); (case aF => exact (fun _ _ => trivial)); (case aO => exact (by (with_reducible repeat (first | apply Kd.R_alloc | apply Kd.R_drewN | apply Kd.R_drew)); exact HO_5.out)); (case aS => exact (below_size (by repeat (first | (with_reducible first | exact HB.out | apply below_alloc | apply pw_below_drewN | apply below_drew1) | exact HB.out)))); (case aL => have := LMc11.out; omega); intro v172 w13 ho hb hg hat; rw [← Ny171.out] at ho; have n0_ := Aside0.mk (hb); have n1_ := Aside0.mk (ho); clear HB; clear HO_5; have HB := n0_; have HO173 := n1_; clear n0_ n1_; clear ho hb hg hat)))
                    go_roundg k1
                    case measure => have := HK1.out; omega
                    case rel => exact ⟨(y171), (wrap64 (x6_1 + 1)), (by first | rfl | (simp; done) | (simp [*]; done)), H', ⟨by have := HK1.out; omega⟩, ⟨by (with_reducible repeat (first | apply Kd.R_alloc | apply Kd.R_drewN | apply Kd.R_drew)); exact HO173.out⟩, ⟨by repeat (first | (with_reducible first | exact HB.out | apply below_alloc | apply pw_below_drewN | apply below_drew1) | exact HB.out)⟩⟩
                  · rw [if_neg c11] at H
                    exact absurd H (by simp)
                · replace c10 := Bool.eq_false_iff.mpr c10
                  subst c10
                  have H1 : (paronymref23_Patterns.l0 k1 l0 l1 x5_1 (wrap64 (x6_1 + 1))) = some r := by rw [if_neg (show ¬ (false = true) by decide)] at H; exact H
                  clear H
                  have H := H1
                  clear H1
                  have H' := Aside0.mk H
                  clear H
                  have p167 : 0 ≤ (x6_1 : Int) := of_decide_eq_true (by first | (with_reducible assumption) | assumption)
                  have q167 : x6_1 < (l0.length : Int) := of_decide_eq_true (by first | (with_reducible assumption) | assumption)
                  obtain ⟨ad167, A167_0, c167_0, e167, hx167_0, hl167_0, hi167_0⟩ := at_L1 HR0.out x6_1 p167 q167
                  cases e167
                  replace hx167_0 := (HB.out.cell (World.block_lt_of_cell? w _ hx167_0)).trans hx167_0
                  have HR167_0 := Aside0.mk hi167_0
                  have HC167_0 := Aside0.mk hl167_0
                  clear hi167_0 hl167_0
                  replace p167 := eq_true p167
                  replace q167 := eq_true q167
                  have p168 : 0 ≤ (x6_1 : Int) := of_decide_eq_true (by first | (with_reducible assumption) | assumption)
                  have q168 : x6_1 < (l0.length : Int) := of_decide_eq_true (by first | (with_reducible assumption) | assumption)
                  obtain ⟨ad168, A168_0, c168_0, e168, hx168_0, hl168_0, hi168_0⟩ := at_L1 HR0.out x6_1 p168 q168
                  obtain rfl : ad167 = ad168 := (by injection e168)
                  replace hx168_0 := (HB.out.cell (World.block_lt_of_cell? w _ hx168_0)).trans hx168_0
                  have HR168_0 := Aside0.mk hi168_0
                  have HC168_0 := Aside0.mk hl168_0
                  clear hi168_0 hl168_0
                  replace p168 := eq_true p168
                  replace q168 := eq_true q168
                  have ea_ := Option.some.inj (hx167_0.symm.trans hx168_0)
                  injection ea_ with ea_ en_ ec_
                  subst ea_
                  subst ec_
                  clear en_
                  obtain ⟨i014, hi014, _, hsz14, _⟩ := info_parts info3
                  obtain ⟨A14, hcut14, hA14, hC14⟩ := print_drop_of (P := Try.prog) (Value.int .i64) 0 23 3 .i64 Try.underlying23 hi014 hsz14 A1 c1 l1 (ji6) (of_decide_eq_true (by first | (with_reducible assumption) | assumption)) (of_decide_eq_true (by first | (with_reducible assumption) | assumption)) HC1.out
                  have HR169 := Aside0.mk (Kd.C_of_reads (h1 := fun _ => rfl) (hA14 _ (Kd.reads_of_C HR1.out)))
                  have HC169 := Aside0.mk hC14
                  clear hA14 hC14 hi014 hsz14
                  go_wp2_with (first | (go_at_call 18; (try rw [← List.length_drop (l := l1) (i := ji6.toNat)]); (with_reducible refine (paronymref01_Same.calls k1 _ _ (rd_L1 l0 x6_1) _ _ (l1.drop ((ji6) : Int).toNat) false _ ?side1 ?side2 ?side3 ?side4 A9.out).mono ?_); (case side1 => repeat (first | exact (Kd.C_below HR168_0.out HB.out) | (with_reducible refine Kd.C_alloc ?_ _) | (with_reducible refine Kd.C_drewN ?_ _) | (with_reducible refine Kd.C_drew ?_))); (case side2 => exact HC168_0.out); (case side3 => repeat (first | exact (Kd.C_below HR169.out HB.out) | (with_reducible refine Kd.C_alloc ?_ _) | (with_reducible refine Kd.C_drewN ?_ _) | (with_reducible refine Kd.C_drew ?_))); (case side4 => exact HC169.out); rintro e w' ⟨rfl, ⟨nd, rfl⟩⟩; (try first | exact ⟨rfl, _, World.drewN_drewN _ _ _⟩ | exact ⟨rfl, _, Eq.trans (World.drewN_drewN _ _ _) (congrArg (World.drewN _) (Nat.add_assoc _ _ _))⟩)))
                  (go_quiet (first | (go_at_call 18; (try rw [← List.length_drop (l := l1) (i := ji6.toNat)]); (with_reducible refine (paronymref01_Same.calls k1 _ _ (rd_L1 l0 x6_1) _ _ (l1.drop ((ji6) : Int).toNat) false _ ?side1 ?side2 ?side3 ?side4 A9.out).mono ?_); (case side1 => repeat (first | exact (Kd.C_below HR168_0.out HB.out) | (with_reducible refine Kd.C_alloc ?_ _) | (with_reducible refine Kd.C_drewN ?_ _) | (with_reducible refine Kd.C_drew ?_))); (case side2 => exact HC168_0.out); (case side3 => repeat (first | exact (Kd.C_below HR169.out HB.out) | (with_reducible refine Kd.C_alloc ?_ _) | (with_reducible refine Kd.C_drewN ?_ _) | (with_reducible refine Kd.C_drew ?_))); (case side4 => exact HC169.out); rintro e w' ⟨rfl, ⟨nd, rfl⟩⟩; (try first | exact ⟨rfl, _, World.drewN_drewN _ _ _⟩ | exact ⟨rfl, _, Eq.trans (World.drewN_drewN _ _ _) (congrArg (World.drewN _) (Nat.add_assoc _ _ _))⟩))); try go_wp2_with (first | (go_at_call 18; (try rw [← List.length_drop (l := l1) (i := ji6.toNat)]); (with_reducible refine (paronymref01_Same.calls k1 _ _ (rd_L1 l0 x6_1) _ _ (l1.drop ((ji6) : Int).toNat) false _ ?side1 ?side2 ?side3 ?side4 A9.out).mono ?_); (case side1 => repeat (first | exact (Kd.C_below HR168_0.out HB.out) | (with_reducible refine Kd.C_alloc ?_ _) | (with_reducible refine Kd.C_drewN ?_ _) | (with_reducible refine Kd.C_drew ?_))); (case side2 => exact HC168_0.out); (case side3 => repeat (first | exact (Kd.C_below HR169.out HB.out) | (with_reducible refine Kd.C_alloc ?_ _) | (with_reducible refine Kd.C_drewN ?_ _) | (with_reducible refine Kd.C_drew ?_))); (case side4 => exact HC169.out); rintro e w' ⟨rfl, ⟨nd, rfl⟩⟩; (try first | exact ⟨rfl, _, World.drewN_drewN _ _ _⟩ | exact ⟨rfl, _, Eq.trans (World.drewN_drewN _ _ _) (congrArg (World.drewN _) (Nat.add_assoc _ _ _))⟩))))
                  go_roundg k1
                  case measure => have := HK1.out; omega
                  case rel => exact ⟨(x5_1), (wrap64 (x6_1 + 1)), (by first | rfl | (simp; done) | (simp [*]; done)), H', ⟨by have := HK1.out; omega⟩, ⟨by (with_reducible repeat (first | apply Kd.R_alloc | apply Kd.R_drewN | apply Kd.R_drew)); exact HO_5.out⟩, ⟨by repeat (first | (with_reducible first | exact HB.out | apply below_alloc | apply pw_below_drewN | apply below_drew1) | exact HB.out)⟩⟩
              · rw [if_neg c8] at H
                exact absurd H (by simp)
            · rw [if_neg c7] at H
              exact absurd H (by simp)
          · rw [if_neg c5] at H
            have c5b0 : decide (((rd_L1 l0 x6_1).length : Int) ≤ (l1.length : Int)) = false := decide_eq_false c5
            have c5b1 : decide ((rd_L1 l0 x6_1).length ≤ l1.length) = false := decide_eq_false (fun h => c5 (Int.ofNat_le.mpr h))
            clear c5
            have H' := Aside0.mk H
            clear H
            have p167 : 0 ≤ (x6_1 : Int) := of_decide_eq_true (by first | (with_reducible assumption) | assumption)
            have q167 : x6_1 < (l0.length : Int) := of_decide_eq_true (by first | (with_reducible assumption) | assumption)
            obtain ⟨ad167, A167_0, c167_0, e167, hx167_0, hl167_0, hi167_0⟩ := at_L1 HR0.out x6_1 p167 q167
            cases e167
            replace hx167_0 := (HB.out.cell (World.block_lt_of_cell? w _ hx167_0)).trans hx167_0
            have HR167_0 := Aside0.mk hi167_0
            have HC167_0 := Aside0.mk hl167_0
            clear hi167_0 hl167_0
            replace p167 := eq_true p167
            replace q167 := eq_true q167
            go_wp2
            repeat (go_quiet (fail); try go_wp2)
            go_roundg k1
            case measure => have := HK1.out; omega
            case rel => exact ⟨(x5_1), (wrap64 (x6_1 + 1)), (by first | rfl | (simp; done) | (simp [*]; done)), H', ⟨by have := HK1.out; omega⟩, ⟨by (with_reducible repeat (first | apply Kd.R_alloc | apply Kd.R_drewN | apply Kd.R_drew)); exact HO_5.out⟩, ⟨by repeat (first | (with_reducible first | exact HB.out | apply below_alloc | apply pw_below_drewN | apply below_drew1) | exact HB.out)⟩⟩
        · rw [if_neg c4] at H
          exact absurd H (by simp)
      · rw [if_neg c3] at H
        have c3b0 : decide (x6_1 < (l0.length : Int)) = false := decide_eq_false c3
        clear c3
        obtain rfl := Option.some.inj H
        go_wp2
        repeat (go_quiet (fail); try go_wp2)
        go_ret
        exact ⟨_, by first | rfl | (simp [errW_none, errW_some] <;> rfl) | (simp [*, errW_none, errW_some] <;> rfl), by (with_reducible repeat (first | apply Kd.R_alloc | apply Kd.R_drewN | apply Kd.R_drew)); exact HO_5.out, by repeat (first | (with_reducible first | exact HB.out | apply below_alloc | apply pw_below_drewN | apply below_drew1) | exact HB.out)⟩

end Go.Proofs.Ytgfmplhpoblleaa.PFB
end
section
/- The document's outputs, patterns and order. -/
namespace Go.Proofs.Ytgfmplhpoblleaa.FailW
open Go.RowKit Go.Shelf Go.Lib Go.Proofs Go.Proofs.YtgfmplhpoblleaaW.PrintWords Go.Proofs.YtgfmplhpoblleaaW.PrintLast Go.Proofs.YtgfmplhpoblleaaW.PrintMore Go.Proofs.Ytgfmplhpoblleaa.PRank Go.Proofs.Ytgfmplhpoblleaa.PFB Go.Proofs.Ytgfmplhpoblleaa.RankW Go.Proofs.Ytgfmplhpoblleaa.SortOwn Go.Proofs.Ytgfmplhpoblleaa
open Go.Proofs.Ytgfmplhpoblleaa.Cmps hiding dedup
set_option linter.unusedVariables false
set_option linter.unusedSimpArgs false

theorem rends_l (l : List (List Int)) (s : List Int) (hl : Bnd l) (hs : s.length ≤ 1000) (d : Nat) : ∀ (k i : Nat) (acc : List Int), l.length - i = d → i ≤ l.length → acc.length ≤ i → d + 2010 ≤ k →
    paronymref22_Ends.l0 k l s acc (i : Int) = some (acc ++ endsF i (l.drop i) s) := by
  have hll := hl.1
  induction d with
  | zero =>
    intro k i acc hd hi ha hk
    obtain ⟨k, rfl⟩ : ∃ m, k = m + 1 := ⟨k - 1, by omega⟩
    simp only [paronymref22_Ends.l0]
    rw [if_neg (by omega), List.drop_of_length_le (by omega)]; simp [endsF]
  | succ d ih =>
    intro k i acc hd hi ha hk
    obtain ⟨k, rfl⟩ : ∃ m, k = m + 1 := ⟨k - 1, by omega⟩
    have hlt : i < l.length := by omega
    have hu := hl.2 _ (List.getElem_mem hlt)
    simp only [paronymref22_Ends.l0]
    rw [if_pos (by omega), if_pos (by omega), rdL l i hlt, RefS.ref_same _ _ (by omega) (by omega) k (by omega), Option.bind_some, RefS.r_wrap _ (by omega) (by omega), List.drop_eq_getElem_cons hlt, endsF]
    have e : ((i : Int) + 1) = ((i + 1 : Nat) : Int) := by omega
    by_cases h : l[i] = s
    · rw [if_pos (by simpa using h), if_pos (by omega), if_pos h.symm, e, ih k (i + 1) _ (by omega) (by omega) (by simp; omega) (by omega)]
      simp
    · rw [if_neg (by simpa using h), if_neg (fun h2 => h h2.symm), e, ih k (i + 1) _ (by omega) (by omega) (by omega) (by omega)]
      simp
theorem rends_f {l : List (List Int)} {s : List Int} (hl : Bnd l) (hs : s.length ≤ 1000) {k : Nat} (hk : 3020 ≤ k) : paronymref22_Ends.f k l s = some (endsF 0 l s) := by
  have := rends_l l s hl hs l.length k 0 [] (by omega) (by omega) (by simp) (by have := hl.1; omega)
  unfold paronymref22_Ends.f
  simpa using this
/-- A node's failure, by the document. -/
def failRef (ts : List (List Int)) (n : Int) : Int := if 0 ≤ n ∧ n < (ts.length : Int) then ((ts.idxOf (lngT ts (ts.getD n.toNat []).tail) : Nat) : Int) else 0
def outRef (ts l : List (List Int)) (n : Int) : Int := if 0 ≤ n ∧ n < (ts.length : Int) then outT ts l ((ts.getD n.toNat []).length + 1) (ts.getD n.toNat []) else -1
theorem getD_at {ts : List (List Int)} {m : Nat} {u : List Int} (hu : ts[m]? = some u) : ts.getD (m : Int).toNat [] = u := by rw [Int.toNat_natCast, List.getD_eq_getElem?_getD, hu]; rfl
section
variable {x : List S106} {ts : List (List Int)}
theorem failRef_at {m : Nat} {u : List Int} (hu : ts[m]? = some u) : failRef ts m = ((ts.idxOf (lngT ts u.tail) : Nat) : Int) := by
  have := (List.getElem?_eq_some_iff.1 hu).1
  unfold failRef
  rw [if_pos (by omega), getD_at hu]
theorem outRef_at {l : List (List Int)} {m : Nat} {u : List Int} (hu : ts[m]? = some u) : outRef ts l m = outT ts l (u.length + 1) u := by
  have := (List.getElem?_eq_some_iff.1 hu).1
  unfold outRef
  rw [if_pos (by omega), getD_at hu]
theorem rfail_any (h : Sp x ts) (hts : Bnd ts) (n : Int) {k : Nat} (hk : 4030 ≤ k) : paronymref23_Fail.f k ts n = some (failRef ts n) := by
  by_cases hn : 0 ≤ n ∧ n < (ts.length : Int)
  · obtain ⟨m, rfl⟩ : ∃ m : Nat, n = m := ⟨n.toNat, by omega⟩
    have hm : m < ts.length := by omega
    rw [rfail_f h hts (List.getElem?_eq_getElem hm) hk, failRef_at (List.getElem?_eq_getElem hm)]
  · unfold failRef paronymref23_Fail.f
    rw [if_neg hn]
    by_cases h0 : n ≤ 0
    · rw [if_pos h0]
    · rw [if_neg h0, if_pos (by omega)]
theorem failOf_any (h : Sp x ts) {s : St} (hF : LFin x ts s) (n : Int) : failOf s.fl n = failRef ts n := by
  by_cases hn : 0 ≤ n ∧ n < (ts.length : Int)
  · obtain ⟨m, rfl⟩ : ∃ m : Nat, n = m := ⟨n.toNat, by omega⟩
    have hm : m < ts.length := by omega
    rw [failRef_at (List.getElem?_eq_getElem hm), failOf_eq h hF (List.getElem?_eq_getElem hm)]
  · unfold failRef failOf
    rw [if_neg hn, if_neg]
    intro hc
    obtain ⟨h1, h2⟩ := isNode_iff.1 hc
    rw [hF.fll, ← h.len] at h2
    exact hn ⟨h1, h2⟩
theorem outOf_any {l : List (List Int)} {k : Nat} (h : Tr x ts (fun s => endsF 0 l s) k) {s : St} (hF : LFin x ts s) (n : Int) : outOf s.fl s.ol n = outRef ts l n := by
  by_cases hn : 0 ≤ n ∧ n < (ts.length : Int)
  · obtain ⟨m, rfl⟩ : ∃ m : Nat, n = m := ⟨n.toNat, by omega⟩
    have hm : m < ts.length := by omega
    rw [outRef_at (List.getElem?_eq_getElem hm), outOf_eq h hF (List.getElem?_eq_getElem hm)]
  · unfold outRef outOf
    rw [if_neg hn, if_neg]
    intro hc
    obtain ⟨h1, h2⟩ := isNode_iff.1 hc
    rw [hF.fll, ← h.sp.len] at h2
    exact hn ⟨h1, h2⟩
theorem rout_l (h : Sp x ts) (hts : Bnd ts) {l : List (List Int)} (hl : Bnd l) : ∀ (d m k : Nat) (u : List Int), ts[m]? = some u → u.length ≤ d → d + 4050 ≤ k → paronymref23_Out.l0 k l ts (m : Int) = some (outT ts l (d + 1) u) := by
  intro d
  induction d with
  | zero =>
    intro m k u hu hd hk
    obtain ⟨k, rfl⟩ : ∃ m, k = m + 1 := ⟨k - 1, by omega⟩
    have hne : u = [] := List.length_eq_zero_iff.1 (by omega)
    subst hne
    have : m = 0 := nodup_at h.nd hu h.root
    subst this
    simp only [paronymref23_Out.l0]
    rw [if_neg (by omega)]; simp [outT]
  | succ d ih =>
    intro m k u hu hd hk
    obtain ⟨k, rfl⟩ : ∃ m, k = m + 1 := ⟨k - 1, by omega⟩
    obtain ⟨hm, eu⟩ := List.getElem?_eq_some_iff.1 hu
    have hul := hts.2 u (List.mem_of_getElem? hu)
    simp only [paronymref23_Out.l0]
    by_cases h0 : m = 0
    · subst h0
      rw [h.root] at hu
      obtain rfl := Option.some.inj hu
      rw [if_neg (by omega)]; simp [outT]
    · have hne : u ≠ [] := fun e => by subst e; exact h0 (nodup_at h.nd hu h.root)
      have hlt := lng_tail_lt ts hne
      rw [if_pos (by omega), if_pos (by omega), if_pos (by omega), rdL ts m hm, eu, rends_f hl hul (by omega), Option.bind_some, outT, if_neg hne]
      by_cases hE : (endsF 0 l u).length > 0
      · rw [if_pos (by omega), if_pos hE, idx_of h.nd hu]
      · rw [if_neg (by omega), if_neg hE, rfail_f h hts hu (by omega), Option.bind_some]
        exact ih _ k _ (at_idx (lngT_mem h.nil _)) (by omega) (by omega)
theorem rout_f (h : Sp x ts) (hts : Bnd ts) {l : List (List Int)} (hl : Bnd l) (n : Int) {k : Nat} (hk : 5100 ≤ k) : paronymref23_Out.f k l ts n = some (outRef ts l n) := by
  obtain ⟨k, rfl⟩ : ∃ m, k = m + 1 := ⟨k - 1, by omega⟩
  unfold paronymref23_Out.f
  by_cases h0 : n < 0
  · unfold outRef
    rw [if_pos h0, if_neg (by omega)]; simp [paronymref23_Out.j0]
  · rw [if_neg h0]
    simp only [paronymref23_Out.j0]
    by_cases h1 : n ≥ (ts.length : Int)
    · unfold outRef
      rw [if_pos (by simpa using h1), if_neg (by omega)]
    · rw [if_neg (by simpa using h1)]
      obtain ⟨m, rfl⟩ : ∃ m : Nat, n = m := ⟨n.toNat, by omega⟩
      have hm : m < ts.length := by omega
      have hu := hts.2 _ (List.getElem_mem hm)
      rw [outRef_at (List.getElem?_eq_getElem hm)]
      exact rout_l h hts hl _ m k _ (List.getElem?_eq_getElem hm) (Nat.le_refl _) (by omega)
end
theorem suf_drop (p s : List Int) (h : p.length ≤ s.length) : (p = s.drop (s.length - p.length)) ↔ p <:+ s := by
  constructor
  · intro e; rw [e]; exact List.drop_suffix _ _
  · rintro ⟨a, rfl⟩
    simp
theorem rpat_l (l : List (List Int)) (s : List Int) (hl : Bnd l) (hs : s.length ≤ 1000) (d : Nat) : ∀ (k i : Nat) (acc : List Int), l.length - i = d → i ≤ l.length → acc.length ≤ i → d + 2010 ≤ k →
    paronymref23_Patterns.l0 k l s acc (i : Int) = some (acc ++ patT i (l.drop i) s) := by
  have hll := hl.1
  induction d with
  | zero =>
    intro k i acc hd hi ha hk
    obtain ⟨k, rfl⟩ : ∃ m, k = m + 1 := ⟨k - 1, by omega⟩
    simp only [paronymref23_Patterns.l0]
    rw [if_neg (by omega), List.drop_of_length_le (by omega)]; simp [patT]
  | succ d ih =>
    intro k i acc hd hi ha hk
    obtain ⟨k, rfl⟩ : ∃ m, k = m + 1 := ⟨k - 1, by omega⟩
    have hlt : i < l.length := by omega
    have hu := hl.2 _ (List.getElem_mem hlt)
    simp only [paronymref23_Patterns.l0]
    rw [if_pos (by omega), if_pos (by omega), rdL l i hlt, List.drop_eq_getElem_cons hlt, patT]
    have e : ((i : Int) + 1) = ((i + 1 : Nat) : Int) := by omega
    by_cases hle : l[i].length ≤ s.length
    · rw [if_pos (by omega), RefS.r_wrap _ (by omega) (by omega), if_pos (by omega), if_pos (by omega), RefS.r_wrap _ (by omega) (by omega)]
      rw [show ((s.length : Int) - (l[i].length : Int)).toNat = s.length - l[i].length by omega, RefS.ref_same _ _ (by omega) (by simp; omega) k (by omega), Option.bind_some]
      by_cases h : l[i] <:+ s
      · rw [if_pos (by simpa using (suf_drop _ _ hle).2 h), if_pos (by omega), if_pos h, e, ih k (i + 1) _ (by omega) (by omega) (by simp; omega) (by omega)]
        simp
      · rw [if_neg (by simpa using fun h2 => h ((suf_drop _ _ hle).1 h2)), if_neg h, e, ih k (i + 1) _ (by omega) (by omega) (by omega) (by omega)]
        simp
    · have h : ¬ l[i] <:+ s := fun h => hle h.length_le
      rw [if_neg (by omega), if_neg h, RefS.r_wrap _ (by omega) (by omega), e, ih k (i + 1) _ (by omega) (by omega) (by omega) (by omega)]
      simp
theorem rpat_f {l : List (List Int)} {s : List Int} (hl : Bnd l) (hs : s.length ≤ 1000) {k : Nat} (hk : 3020 ≤ k) : paronymref23_Patterns.f k l s = some (patT 0 l s) := by
  have := rpat_l l s hl hs l.length k 0 [] (by omega) (by omega) (by simp) (by have := hl.1; omega)
  unfold paronymref23_Patterns.f
  simpa using this
/-! ### The order -/
theorem od_len {x : List S106} {ts : List (List Int)} {s : St} (hF : LFin x ts s) : s.od.length = x.length := by
  have h1 := nodup_len x.length s.od hF.nd hF.mem
  have h2 : ((List.range x.length).map (fun m : Nat => (m : Int))).length ≤ s.od.length := by
    have hsub : ∀ q ∈ (List.range x.length).map (fun m : Nat => (m : Int)), q ∈ s.od := by
      intro q hq
      obtain ⟨m, hm, rfl⟩ := List.mem_map.1 hq
      exact hF.all m (List.mem_range.1 hm)
    have hnd : ((List.range x.length).map (fun m : Nat => (m : Int))).Nodup := by
      unfold List.Nodup
      rw [List.pairwise_iff_getElem]
      intro i j hi hj hlt
      simp at hi hj ⊢
      omega
    exact List.Nodup.length_le_of_subset hnd hsub
  simp at h2
  omega
end Go.Proofs.Ytgfmplhpoblleaa.FailW
end
