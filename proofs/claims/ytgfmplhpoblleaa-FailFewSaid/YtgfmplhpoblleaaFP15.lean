/- FailRb, Lit, FailY, FailYa, FailYb, OpenKd. -/
import Derived.Test.YtgfmplhpoblleaaFP1
import Derived.Test.YtgfmplhpoblleaaFP2
import Derived.Test.YtgfmplhpoblleaaFP3
import Derived.Test.YtgfmplhpoblleaaFP5
import Derived.Test.YtgfmplhpoblleaaFP12
import Derived.Test.YtgfmplhpoblleaaFP14
import Derived.Test.YtgfmplhpoblleaaRows
import Derived.WalkKit
import Derived.ProofKit
import Derived.OpenShut
import Derived.ShutString
import Derived.ChangeOld
import Derived.Below
import Derived.Carry
import Derived.SizedLaws
import Derived.ChangeArms
import Derived.ChangeSlices
section
/- Outputs and patterns of a trie's nodes: the program's are the document's. -/
namespace Go.Proofs.Ytgfmplhpoblleaa.FailW
open Go.RowKit Go.Shelf Go.Lib Go.Proofs Go.Proofs.YtgfmplhpoblleaaW.PrintWords Go.Proofs.YtgfmplhpoblleaaW.PrintLast Go.Proofs.YtgfmplhpoblleaaW.PrintMore Go.Proofs.Ytgfmplhpoblleaa.PRank Go.Proofs.Ytgfmplhpoblleaa.PFB Go.Proofs.Ytgfmplhpoblleaa.RankW Go.Proofs.Ytgfmplhpoblleaa.SortOwn Go.Proofs.Ytgfmplhpoblleaa
open Go.Proofs.Ytgfmplhpoblleaa.Cmps hiding dedup
set_option linter.unusedVariables false
set_option linter.unusedSimpArgs false

/-- The node of the longest end that is a pattern's text. -/
def outT (ts l : List (List Int)) : Nat → List Int → Int
  | 0, _ => -1
  | k + 1, u => if u = [] then -1 else if (endsF 0 l u).length > 0 then ((ts.idxOf u : Nat) : Int) else outT ts l k (lngT ts u.tail)
theorem lng_tail_lt (ts : List (List Int)) {u : List Int} (h : u ≠ []) : (lngT ts u.tail).length < u.length := by
  have hpos : 0 < u.length := List.length_pos_iff.2 h
  have hl := lngT_len ts u.tail
  rw [List.length_tail] at hl
  omega
theorem outT_more (ts l : List (List Int)) : ∀ (d e : Nat) (u : List Int), u.length < d → u.length < e → outT ts l d u = outT ts l e u
  | 0, _, _, h, _ => absurd h (by omega)
  | _, 0, _, _, h => absurd h (by omega)
  | d + 1, e + 1, u, h1, h2 => by
    rw [outT, outT]
    split
    · rfl
    · rename_i h
      have := lng_tail_lt ts h
      rw [outT_more ts l d e _ (by omega) (by omega)]
/-- All patterns that end a text, by the ends that are a trie's. -/
def sufT (ts l : List (List Int)) : Nat → List Int → List Int
  | 0, _ => []
  | k + 1, u => if u = [] then [] else endsF 0 l u ++ sufT ts l k (lngT ts u.tail)
theorem sufT_more (ts l : List (List Int)) : ∀ (d e : Nat) (u : List Int), u.length < d → u.length < e → sufT ts l d u = sufT ts l e u
  | 0, _, _, h, _ => absurd h (by omega)
  | _, 0, _, _, h => absurd h (by omega)
  | d + 1, e + 1, u, h1, h2 => by
    rw [sufT, sufT]
    split
    · rfl
    · rename_i h
      have := lng_tail_lt ts h
      rw [sufT_more ts l d e _ (by omega) (by omega)]
section
variable {x : List S106} {ts l : List (List Int)}
theorem ends_at {k : Nat} (h : Tr x ts (fun s => endsF 0 l s) k) {m : Nat} {u : List Int} (hu : ts[m]? = some u) : (nodeOf x m).f4 = endsF 0 l u := by
  have hm := h.sp.lt hu
  rw [nodeOf_nat hm]
  exact h.en.1 m _ u (List.getElem?_eq_getElem hm) hu
theorem ol_out {k : Nat} (h : Tr x ts (fun s => endsF 0 l s) k) {s : St} (hF : LFin x ts s) : ∀ (d m : Nat) (u : List Int), ts[m]? = some u → u.length < d → atI s.ol m = outT ts l d u
  | 0, _, _, _, hd => absurd hd (by omega)
  | d + 1, m, u, hu, hd => by
    have h1 := hF.ol m u hu
    unfold OlAt at h1
    rw [h1, outT, ends_at h hu]
    split
    · rfl
    · rename_i hne
      have := lng_tail_lt ts hne
      split
      · rw [idx_of h.sp.nd hu]
      · exact ol_out h hF d _ _ (at_idx (lngT_mem h.sp.nil _)) (by omega)
/-- The program's Out is that node. -/
theorem outOf_eq {k : Nat} (h : Tr x ts (fun s => endsF 0 l s) k) {s : St} (hF : LFin x ts s) {m : Nat} {u : List Int} (hu : ts[m]? = some u) : outOf s.fl s.ol m = outT ts l (u.length + 1) u := by
  have hm := h.sp.lt hu
  unfold outOf
  rw [if_pos (isNode_iff.2 ⟨by omega, by rw [hF.fll]; omega⟩)]
  exact ol_out h hF _ m u hu (by omega)
theorem failOf_eq (h : Sp x ts) {s : St} (hF : LFin x ts s) {m : Nat} {u : List Int} (hu : ts[m]? = some u) : failOf s.fl m = ((ts.idxOf (lngT ts u.tail) : Nat) : Int) := by
  have hm := h.lt hu
  unfold failOf
  rw [if_pos (isNode_iff.2 ⟨by omega, by rw [hF.fll]; omega⟩)]
  exact hF.fl m u hu
/-- The way along the outputs gathers what the way along all ends gathers. -/
theorem pat_l {k : Nat} (h : Tr x ts (fun s => endsF 0 l s) k) {s : St} (hF : LFin x ts s) : ∀ (d : Nat) (u : List Int) (acc : List Int) (K : Nat), u ∈ ts → u.length < d → d ≤ K → patF x s.fl s.ol K (outT ts l d u) acc = some (acc ++ sufT ts l d u)
  | 0, _, _, _, _, hd, _ => absurd hd (by omega)
  | d + 1, u, acc, 0, _, _, hK => absurd hK (by omega)
  | d + 1, u, acc, K + 1, hu, hd, hK => by
    rw [outT, sufT]
    by_cases hne : u = []
    · subst hne
      rw [if_pos rfl, if_pos rfl, patF, if_neg (by omega)]; simp
    · rw [if_neg hne, if_neg hne]
      have hlt := lng_tail_lt ts hne
      have hv := lngT_mem h.sp.nil u.tail
      have hul : 0 < d := by have := List.length_pos_iff.2 hne; omega
      by_cases hE : (endsF 0 l u).length > 0
      · rw [if_pos hE]
        have hui := at_idx hu
        have hpos : ts.idxOf u ≠ 0 := fun e => by
          rw [e, h.sp.root] at hui
          exact hne (Option.some.inj hui).symm
        rw [patF, if_pos (by omega), failOf_eq h.sp hF hui, outOf_eq h hF (at_idx hv), ends_at h hui]
        rw [outT_more ts l _ d _ (by omega) (by omega)]
        rw [pat_l h hF d _ _ K hv (by omega) (by omega), List.append_assoc]
      · rw [if_neg hE]
        have e0 : endsF 0 l u = [] := List.length_eq_zero_iff.1 (by omega)
        rw [e0, List.nil_append]
        exact pat_l h hF d _ _ (K + 1) hv (by omega) (by omega)
end
theorem mem_endsF (l : List (List Int)) (s : List Int) : ∀ (k : Nat) (q : Int), q ∈ endsF k l s ↔ ∃ i : Nat, q = ((k + i : Nat) : Int) ∧ l[i]? = some s := by
  induction l with
  | nil => intro k q; simp [endsF]
  | cons p r ih =>
    intro k q
    rw [endsF, List.mem_append, ih]
    constructor
    · rintro (h | ⟨i, rfl, hi⟩)
      · split at h
        · rename_i e
          rw [List.mem_singleton] at h
          exact ⟨0, by simpa using h, by simp [e]⟩
        · simp at h
      · exact ⟨i + 1, by omega, by simpa using hi⟩
    · rintro ⟨i, rfl, hi⟩
      cases i with
      | zero =>
        simp at hi
        left
        rw [if_pos hi.symm]; simp
      | succ i => exact .inr ⟨i, by omega, by simpa using hi⟩
theorem endsF_rise (l : List (List Int)) (s : List Int) : ∀ k : Nat, (endsF k l s).Pairwise (· < ·) := by
  induction l with
  | nil => intro k; exact List.Pairwise.nil
  | cons p r ih =>
    intro k
    rw [endsF, List.pairwise_append]
    refine ⟨by split <;> simp, ih _, ?_⟩
    intro a ha b hb
    obtain ⟨i, rfl, -⟩ := (mem_endsF r s (k + 1) b).1 hb
    split at ha
    · rw [List.mem_singleton] at ha; subst ha; omega
    · simp at ha
theorem lngT_suf (ts : List (List Int)) : ∀ s, lngT ts s <:+ s
  | [] => List.suffix_refl _
  | a :: r => by
    rw [lngT]; split
    · exact List.suffix_refl _
    · exact (lngT_suf ts r).trans (List.suffix_cons a r)
/-- A shorter end that is a trie's is one of the longest's. -/
theorem suf_lng (ts : List (List Int)) {v : List Int} (hv : v ∈ ts) : ∀ s, v <:+ s → v <:+ lngT ts s
  | [], h => h
  | a :: r, h => by
    rw [lngT]; split
    · exact h
    · rename_i hn
      rcases List.suffix_cons_iff.1 h with rfl | h
      · exact absurd hv hn
      · exact suf_lng ts hv r h
theorem mem_sufT {ts l : List (List Int)} (hp : ∀ p ∈ l, p ∈ ts) (h0 : [] ∈ ts) (q : Int) : ∀ (d : Nat) (u : List Int), u ∈ ts → u.length < d → (q ∈ sufT ts l d u ↔ ∃ (i : Nat) (p : List Int), q = i ∧ l[i]? = some p ∧ p ≠ [] ∧ p <:+ u)
  | 0, _, _, hd => absurd hd (by omega)
  | d + 1, u, hu, hd => by
    rw [sufT]
    by_cases hne : u = []
    · subst hne
      rw [if_pos rfl]
      constructor
      · intro h; simp at h
      · rintro ⟨i, p, _, _, h1, h2⟩
        exact absurd (List.suffix_nil.1 h2) h1
    · rw [if_neg hne, List.mem_append, mem_endsF, mem_sufT hp h0 q d _ (lngT_mem h0 _) (by have := lng_tail_lt ts hne; omega)]
      constructor
      · rintro (⟨i, rfl, hi⟩ | ⟨i, p, rfl, hi, h1, h2⟩)
        · exact ⟨i, u, by simp, hi, hne, List.suffix_refl _⟩
        · refine ⟨i, p, rfl, hi, h1, (h2.trans (lngT_suf ts u.tail)).trans (List.tail_suffix u)⟩
      · rintro ⟨i, p, rfl, hi, h1, h2⟩
        by_cases hpu : p = u
        · subst hpu; exact .inl ⟨i, by simp, hi⟩
        · right
          refine ⟨i, p, rfl, hi, h1, suf_lng ts (hp p (List.mem_of_getElem? hi)) _ ?_⟩
          cases u with
          | nil => exact absurd rfl hne
          | cons a r =>
            rcases List.suffix_cons_iff.1 h2 with h3 | h3
            · exact absurd h3 hpu
            · exact h3
theorem nodup_sufT {ts l : List (List Int)} (hp : ∀ p ∈ l, p ∈ ts) (h0 : [] ∈ ts) : ∀ (d : Nat) (u : List Int), u ∈ ts → u.length < d → (sufT ts l d u).Nodup
  | 0, _, _, hd => absurd hd (by omega)
  | d + 1, u, hu, hd => by
    rw [sufT]
    by_cases hne : u = []
    · rw [if_pos hne]; exact List.nodup_nil
    · have hlt := lng_tail_lt ts hne
      rw [if_neg hne, List.nodup_append]
      refine ⟨(endsF_rise l u 0).imp (fun h => by omega), nodup_sufT hp h0 d _ (lngT_mem h0 _) (by omega), ?_⟩
      rintro a ha b hb rfl
      obtain ⟨i, hi1, hi2⟩ := (mem_endsF l u 0 a).1 ha
      obtain ⟨j, p, hj1, hj2, -, hj3⟩ := (mem_sufT hp h0 a d _ (lngT_mem h0 _) (by omega)).1 hb
      have : i = j := by omega
      subst this
      rw [hi2] at hj2
      obtain rfl := Option.some.inj hj2
      have := hj3.length_le
      omega
/-- Two rising lists of the same numbers. -/
theorem rise_ext : ∀ (a b : List Int), a.Pairwise (· < ·) → b.Pairwise (· < ·) → (∀ q, q ∈ a ↔ q ∈ b) → a = b
  | [], [], _, _, _ => rfl
  | [], y :: b, _, _, h => absurd ((h y).2 (by simp)) (by simp)
  | y :: a, [], _, _, h => absurd ((h y).1 (by simp)) (by simp)
  | x :: a, y :: b, ha, hb, h => by
    obtain ⟨h1, h2⟩ := List.pairwise_cons.1 ha
    obtain ⟨h3, h4⟩ := List.pairwise_cons.1 hb
    have e : x = y := by
      rcases List.mem_cons.1 ((h x).1 (by simp)) with e | e
      · exact e
      · rcases List.mem_cons.1 ((h y).2 (by simp)) with e2 | e2
        · exact e2.symm
        · have := h1 y e2; have := h3 x e; omega
    subst e
    rw [rise_ext a b h2 h4 (fun q => by
      have := h q
      simp only [List.mem_cons] at this
      constructor
      · intro hq
        rcases this.1 (.inr hq) with rfl | h5
        · have := h1 q hq; omega
        · exact h5
      · intro hq
        rcases this.2 (.inr hq) with rfl | h5
        · have := h3 q hq; omega
        · exact h5)]
theorem inOrder_perm (r : List Int) : (inOrder r).Perm r := List.mergeSort_perm _ _
theorem inOrder_le (r : List Int) : (inOrder r).Pairwise (· ≤ ·) := by
  have := List.pairwise_mergeSort (le := fun x y : Int => decide (x ≤ y)) (fun a b c h1 h2 => by simp at *; omega) (fun a b => by simp; omega) r
  exact this.imp (fun h => by simpa using h)
theorem inOrder_lt {r : List Int} (h : r.Nodup) : (inOrder r).Pairwise (· < ·) := by
  have h1 := inOrder_le r
  have h2 : (inOrder r).Nodup := (inOrder_perm r).nodup_iff.2 h
  exact (h1.and h2).imp (fun h => by have := h.1; have := h.2; omega)
/-- The patterns that end a text, in their order. -/
def patT (k : Nat) : List (List Int) → List Int → List Int
  | [], _ => []
  | p :: r, s => (if p <:+ s then [(k : Int)] else []) ++ patT (k + 1) r s
theorem mem_patT (s : List Int) : ∀ (l : List (List Int)) (k : Nat) (q : Int), q ∈ patT k l s ↔ ∃ (i : Nat) (p : List Int), q = ((k + i : Nat) : Int) ∧ l[i]? = some p ∧ p <:+ s
  | [], k, q => by simp [patT]
  | p :: r, k, q => by
    rw [patT, List.mem_append, mem_patT s r]
    constructor
    · rintro (h | ⟨i, p', rfl, hi, h2⟩)
      · split at h
        · rename_i e
          rw [List.mem_singleton] at h
          exact ⟨0, p, by simpa using h, by simp, e⟩
        · simp at h
      · exact ⟨i + 1, p', by omega, by simpa using hi, h2⟩
    · rintro ⟨i, p', rfl, hi, h2⟩
      cases i with
      | zero =>
        simp at hi
        subst hi
        left; rw [if_pos h2]; simp
      | succ i => exact .inr ⟨i, p', by omega, by simpa using hi, h2⟩
theorem patT_rise (s : List Int) : ∀ (l : List (List Int)) (k : Nat), (patT k l s).Pairwise (· < ·)
  | [], k => List.Pairwise.nil
  | p :: r, k => by
    rw [patT, List.pairwise_append]
    refine ⟨by split <;> simp, patT_rise s r _, ?_⟩
    intro a ha b hb
    obtain ⟨i, p', rfl, -, -⟩ := (mem_patT s r (k + 1) b).1 hb
    split at ha
    · rw [List.mem_singleton] at ha; subst ha; omega
    · simp at ha
theorem suf_patT {ts l : List (List Int)} (hp : ∀ p ∈ l, p ∈ ts) (hne : ∀ p ∈ l, p ≠ []) (h0 : [] ∈ ts) {u : List Int} (hu : u ∈ ts) (d : Nat) (hd : u.length < d) : inOrder (sufT ts l d u) = patT 0 l u := by
  refine rise_ext _ _ (inOrder_lt (nodup_sufT hp h0 d u hu hd)) (patT_rise u l 0) (fun q => ?_)
  rw [(inOrder_perm _).mem_iff, mem_sufT hp h0 q d u hu hd, mem_patT]
  constructor
  · rintro ⟨i, p, rfl, h1, -, h2⟩; exact ⟨i, p, by simp, h1, h2⟩
  · rintro ⟨i, p, rfl, h1, h2⟩; exact ⟨i, p, by simp, h1, hne p (List.mem_of_getElem? h1), h2⟩
/-- Each pattern is a node's text. -/
theorem tsAdd_mem (pl : List Int) : ∀ (ts : List (List Int)) (s : List Int), (∀ u ∈ ts, u ∈ tsAdd ts s pl) ∧ (s ∈ ts → s ++ pl ∈ tsAdd ts s pl) := by
  induction pl with
  | nil => intro ts s; exact ⟨fun u h => h, fun h => by simpa [tsAdd] using h⟩
  | cons c r ih =>
    intro ts s
    rw [tsAdd]
    split
    · rename_i hm
      obtain ⟨h1, h2⟩ := ih ts (s ++ [c])
      exact ⟨h1, fun _ => by have := h2 hm; simpa using this⟩
    · obtain ⟨h1, h2⟩ := ih (ts ++ [s ++ [c]]) (s ++ [c])
      exact ⟨fun u hu => h1 u (List.mem_append_left _ hu), fun _ => by have := h2 (by simp); simpa using this⟩
theorem tsAll_mem (r : List (List Int)) : ∀ (ts : List (List Int)), [] ∈ ts → (∀ u ∈ ts, u ∈ tsAll ts r) ∧ ∀ p ∈ r, p ∈ tsAll ts r := by
  induction r with
  | nil => intro ts h0; exact ⟨fun u h => h, by simp⟩
  | cons p r ih =>
    intro ts h0
    obtain ⟨h1, h2⟩ := tsAdd_mem p ts []
    obtain ⟨h3, h4⟩ := ih (tsAdd ts [] p) (h1 _ h0)
    rw [tsAll]
    refine ⟨fun u hu => h3 u (h1 u hu), fun q hq => ?_⟩
    rcases List.mem_cons.1 hq with rfl | hq
    · exact h3 _ (by simpa using h2 h0)
    · exact h4 q hq
theorem textsOf_mem (l : List (List Int)) : ∀ p ∈ l, p ∈ textsOf l := (tsAll_mem l [[]] (by simp)).2
end Go.Proofs.Ytgfmplhpoblleaa.FailW
end
section
/- Rows that a call writes down. -/
namespace Go.Proofs.Ytgfmplhpoblleaa.FailW
open Go.RowKit Go.Shelf Go.Lib Go.Proofs Go.Proofs.YtgfmplhpoblleaaW.PrintWords Go.Proofs.YtgfmplhpoblleaaW.PrintLast Go.Proofs.YtgfmplhpoblleaaW.PrintMore Go.Proofs.Ytgfmplhpoblleaa.PRank Go.Proofs.Ytgfmplhpoblleaa.PFB Go.Proofs.Ytgfmplhpoblleaa.RankW Go.Proofs.Ytgfmplhpoblleaa.SortOwn Go.Proofs.Ytgfmplhpoblleaa
set_option linter.unusedVariables false
set_option linter.unusedSimpArgs false
theorem lit_ints {W : World} {b : Nat} (l : List Int) {ty : TypeId} (h : W.heap[b]? = some (.cells (encI l).toArray ty (0, 0))) (hl : l.length ≤ 1000000) : Kd.C (Kd.int .i64) W (some ⟨b, 0, none⟩) l.length l := by
  refine ⟨rfl, by omega, fun _ => ⟨_, rfl, fun j x hj => ⟨[.int .i64 x], rfl, rfl, ?_⟩⟩⟩
  intro i u hi
  cases i with
  | zero =>
    simp at hi
    subst hi
    have h1 : (Kd.int IntKind.i64).sz = 1 := rfl
    rw [h1]
    have e : (Addr.mk b 0 none).add (j * 1 + 0) = ⟨b, j, none⟩ := by unfold Addr.add; split <;> simp_all
    rw [e, blk_cell h]
    simp [encI, encs, hj]
  | succ i => simp at hi
theorem lit_rows {W : World} {b : Nat} (L : List (Nat × List Int)) {ty : TypeId} (h : W.heap[b]? = some (.cells (L.map fun p => Value.slice (some ⟨p.1, 0, none⟩) p.2.length p.2.length).toArray ty (0, 0))) (hl : L.length ≤ 1000000)
    (hh : ∀ p ∈ L, p.2.length ≤ 1000000 ∧ ∃ ty', W.heap[p.1]? = some (.cells (encI p.2).toArray ty' (0, 0))) : Kd.C (Kd.slice 3 (Kd.int .i64)) W (some ⟨b, 0, none⟩) L.length (L.map (·.2)) := by
  refine ⟨by simp, by omega, fun _ => ⟨_, rfl, fun j x hj => ?_⟩⟩
  rw [List.getElem?_map, Option.map_eq_some_iff] at hj
  obtain ⟨p, hp, rfl⟩ := hj
  obtain ⟨h1, ty', h2⟩ := hh p (List.mem_of_getElem? hp)
  refine ⟨[.slice (some ⟨p.1, 0, none⟩) p.2.length p.2.length], rfl, ⟨_, _, rfl, Nat.le_refl _, lit_ints p.2 h2 h1⟩, ?_⟩
  intro i u hi
  cases i with
  | zero =>
    simp at hi
    subst hi
    have h1 : (Kd.slice 3 (Kd.int IntKind.i64)).sz = 1 := rfl
    rw [h1]
    have e : (Addr.mk b 0 none).add (j * 1 + 0) = ⟨b, j, none⟩ := by unfold Addr.add; split <;> simp_all
    rw [e, blk_cell h]
    simp [hp]
  | succ i => simp at hi
end Go.Proofs.Ytgfmplhpoblleaa.FailW
end
section
/- Tries and links of the patterns that the statements let in; the example of the document. -/
namespace Go.Proofs.Ytgfmplhpoblleaa.FailW
open Go.RowKit Go.Shelf Go.Lib Go.Proofs Go.Proofs.YtgfmplhpoblleaaW.PrintWords Go.Proofs.YtgfmplhpoblleaaW.PrintLast Go.Proofs.YtgfmplhpoblleaaW.PrintMore Go.Proofs.Ytgfmplhpoblleaa.PRank Go.Proofs.Ytgfmplhpoblleaa.PFB Go.Proofs.Ytgfmplhpoblleaa.RankW Go.Proofs.Ytgfmplhpoblleaa.SortOwn Go.Proofs.Ytgfmplhpoblleaa
open Go.Proofs.Ytgfmplhpoblleaa.Cmps hiding dedup
set_option linter.unusedVariables false
set_option linter.unusedSimpArgs false

/-- Patterns that the statements let in. -/
structure In (B : Nat) (l : List (List Int)) : Prop where
  len : l.length ≤ B
  all : ∀ u ∈ l, u.length ≤ B
theorem In.total {B : Nat} {l : List (List Int)} (h : In B l) : total l ≤ l.length * B := by
  obtain ⟨h1, h2⟩ := h
  clear h1
  induction l with
  | nil => simp [FailW.total]
  | cons a r ih =>
    have := ih (fun u hu => h2 u (List.mem_cons_of_mem _ hu))
    have h3 := h2 a (by simp)
    simp [FailW.total] at this ⊢
    rw [Nat.add_mul]; omega
theorem In.bnd {l : List (List Int)} (h : In 20 l) : Bnd l ∧ FailW.total l ≤ 400 := by
  have := h.total
  have h1 := h.len
  have h2 : l.length * 20 ≤ 20 * 20 := Nat.mul_le_mul_right _ h1
  exact ⟨⟨by omega, fun u hu => by have := h.all u hu; omega⟩, by omega⟩
theorem In.mono {B C : Nat} {l : List (List Int)} (h : In B l) (hBC : B ≤ C) : In C l := ⟨Nat.le_trans h.len hBC, fun u hu => Nat.le_trans (h.all u hu) hBC⟩
theorem kl_trie {l : List (List Int)} (h : In 20 l) : Sp (trieOf l) (textsOf l) ∧ Good (trieOf l) ∧ (trieOf l).length ≤ 1000 ∧ Bnd (textsOf l) ∧ (textsOf l).length = (trieOf l).length := by
  have ht := trie_tr l
  have hb := h.bnd
  have hB := textsOf_bnd hb.1 (by omega)
  have hlen := ht.sp.len
  have := hB.1
  have := h.len
  exact ⟨ht.sp, ht.good (by omega) (by omega), by omega, hB, hlen⟩

/-- A trie and its links, made of patterns that the statements let in. -/
structure Made (w : World) (l : List (List Int)) (t p : Addr) (s : St) : Prop where
  tr : TrieAt w t (trieOf l)
  lk : LinksAt w p t (trieOf l) s.fl s.ol
  fin : LFin (trieOf l) (textsOf l) s
theorem Made.below {w w' : World} {l : List (List Int)} {t p : Addr} {s : St} (h : Made w l t p s) (hg : Go.RowKit.Below w.heap.size w w') : Made w' l t p s := ⟨h.tr.below hg, h.lk.below hg, h.fin⟩

/-- The program's Go over links that have been made. -/
theorem mgo_calls {w : World} {l : List (List Int)} {t p : Addr} {s : St} (h : Made w l t p s) (hl : In 20 l) (n c : Int) :
    Calls Try.prog 39 #[.pointer (some p), .int .i64 n, .int .i64 c] w fun e w' => e = .returned (.tuple #[.int .i64 (goRef (textsOf l) n c).1, .int .i64 (goRef (textsOf l) n c).2]) ∧ Grows w w' := by
  obtain ⟨hS, hG, hx, hB, hlen⟩ := kl_trie hl
  refine go_calls p t (trieOf l) s.fl s.ol n c ((trieOf l).length + 1) (goRef (textsOf l) n c) w h.lk hG (by omega) (fun hn => ?_) (fun hn => ?_)
  · obtain ⟨h0, h1⟩ := isNode_iff.1 hn
    rw [h.fin.fll] at h1
    obtain ⟨m, rfl⟩ : ∃ m : Nat, n = m := ⟨n.toNat, by omega⟩
    exact go_ref hS h.fin (by omega) c
  · unfold goRef
    rw [if_neg]
    intro hc
    have : isNode s.fl n = true := isNode_iff.2 ⟨hc.1, by rw [h.fin.fll]; omega⟩
    rw [hn] at this; cases this

/-- The document's example: two patterns. -/
def exP : List (List Int) := [[1, 2, 3], [2, 3]]
def exS : St := ⟨[0, 0, 4, 5, 0, 0], [-1, -1, -1, 3, -1, 5], [0, 1, 4, 2, 5, 3]⟩
theorem ex_links : linksF (trieOf exP) = some exS := by kernel_rfl
theorem ex_in : In 20 exP := ⟨by decide, by decide⟩
theorem ex_pat : patF (trieOf exP) exS.fl exS.ol 10 (outOf exS.fl exS.ol 3) [] = some [0, 1] := by kernel_rfl
theorem ex_order : inOrder [0, 1] = [0, 1] := by
  refine rise_ext _ _ (inOrder_lt (by decide)) (by decide) (fun q => (inOrder_perm _).mem_iff)
/-- What the example comes to. -/
structure Ex (l : List (List Int)) (s : St) : Prop where
  hin : In 20 l
  hlk : linksF (trieOf l) = some s
  he : l.any (·.isEmpty) = false
  h5 : failOf s.fl 3 = 5
  hp : patF (trieOf l) s.fl s.ol 10 (outOf s.fl s.ol 3) [] = some [0, 1]
theorem ex : Ex exP exS := ⟨ex_in, ex_links, by decide, by kernel_rfl, ex_pat⟩
theorem Ex.fin {l : List (List Int)} {s : St} (h : Ex l s) : LFin (trieOf l) (textsOf l) s := by
  obtain ⟨s', h1, h2⟩ := links_ok (trie_tr l).sp
  rw [h.hlk] at h1
  obtain rfl := Option.some.inj h1
  exact h2
theorem new_calls_n (A : Option Addr) (n c : Nat) (l : List (List Int)) (w : World) (hn : l.length = n) (hC : Kd.C kRows w A n l) (hlen : l.length ≤ 65536) (htot : FailW.total l ≤ 1000000) (he : l.any (·.isEmpty) = false) :
    Calls Try.prog 36 #[.slice A n c] w fun e w' => ∃ g, e = .returned (.tuple #[.pointer (some ⟨g, 0, none⟩), .int .i64 0]) ∧ TrieAt w' ⟨g, 0, none⟩ (trieOf l) ∧ Go.RowKit.Below w.heap.size w w' := by
  subst hn
  exact new_calls A c l w hC hlen htot he
set_option maxHeartbeats 4000000 in
set_option maxRecDepth 100000 in
theorem awake23_calls (w : World) : Calls Try.prog 33 #[] w fun e w' => e = .returned (.bool true) ∧ Go.RowKit.Below w.heap.size w w' := by
  have HB := Aside0.mk (Go.RowKit.Below.refl w.heap.size w)
  obtain ⟨W1, hW1⟩ : ∃ W1, W1 = ((w.alloc (Obj.cells #[Value.int IntKind.i64 1, Value.int IntKind.i64 2, Value.int IntKind.i64 3] 3)).alloc (Obj.cells #[Value.int IntKind.i64 2, Value.int IntKind.i64 3] 3)).alloc (Obj.cells #[Value.slice (some { block := w.heap.size, off := 0 }) 3 3, Value.slice (some { block := w.heap.size + 1, off := 0 }) 2 2] 23) := ⟨_, rfl⟩
  have hC : Kd.C (Kd.slice 3 (Kd.int .i64)) W1 (some ⟨w.heap.size + 1 + 1, 0, none⟩) 2 exP := by
    refine lit_rows (ty := 23) [(w.heap.size, [1, 2, 3]), (w.heap.size + 1, [2, 3])] ?_ (by simp) ?_
    · rw [hW1]; simp only [heap_al, sz_al]; simp
    · intro p hp
      simp only [List.mem_cons, List.not_mem_nil, or_false] at hp
      rcases hp with rfl | rfl
      · refine ⟨by simp, 3, ?_⟩
        rw [hW1]; simp only [heap_al, sz_al]; simp [nn2, encI, encs]
      · refine ⟨by simp, 3, ?_⟩
        rw [hW1]; simp only [heap_al, sz_al]; simp [nn2, encI, encs]
  have hX := ex
  have hl2 : exP.length = 2 := rfl
  generalize exP = l at hC hX hl2
  generalize exS = s at hX
  have HC := Aside0.mk hC
  have HW := Aside0.mk hW1
  have HX := Aside0.mk hX
  have HL2 := Aside0.mk hl2
  have h5 := hX.h5
  clear hC hX hl2 hW1
  go_enter Try.func33, Try.ntmps33
  go_wp2_with (first
    | (go_at_call 36; rw [← HW.out]; have n_ := Aside0.mk (show Go.RowKit.Below w.heap.size w W1 by rw [HW.out]; repeat (first | (with_reducible first | exact HB.out | apply below_alloc | apply pw_below_drewN | apply below_drew1) | exact HB.out)); clear HB; have HB := n_; go_loud (refine (new_calls_n (some ⟨w.heap.size + 1 + 1, 0, none⟩) 2 2 l W1 HL2.out HC.out (by have := HL2.out; omega) (by have := HX.out.hin.bnd.2; omega) HX.out.he).mono ?_); rintro e w4 ⟨g, rfl, hT, hb⟩; have HT := Aside0.mk hT; have n_ := Aside0.mk (below_step (by repeat (first | (with_reducible first | exact HB.out | apply below_alloc | apply pw_below_drewN | apply below_drew1) | exact HB.out)) hb); clear HB; have HB := n_; clear n_; clear hT hb)
    | (go_at_call 37; refine (fnew_calls _ ⟨g, 0, none⟩ (trieOf l) (textsOf l) s HT.out (kl_trie HX.out.hin).1 (kl_trie HX.out.hin).2.1 (by have := (kl_trie HX.out.hin).2.2.1; omega) HX.out.hlk).mono ?_; rintro e w5 ⟨p, od', rfl, h1, h2, h3, hb⟩; have HM := Aside0.mk (show Made w5 l ⟨g, 0, none⟩ ⟨p, 0, none⟩ s from ⟨HT.out.below hb, h1, HX.out.fin⟩); have n_ := Aside0.mk (below_step (by repeat (first | (with_reducible first | exact HB.out | apply below_alloc | apply pw_below_drewN | apply below_drew1) | exact HB.out)) hb); clear HB; have HB := n_; clear n_; clear HT h1 h2 h3 hb)
    | (go_at_call 43; go_loud (refine (fail_calls' ⟨p, 0, none⟩ ⟨g, 0, none⟩ (trieOf l) s.fl s.ol 3 _ HM.out.lk).mono ?_); rintro e w6 ⟨rfl, hg⟩; rw [h5]; have m_ := Aside0.mk (HM.out.below hg.below); clear HM; have HM := m_; clear m_; have hb := hg.below; have n_ := Aside0.mk (below_step (by repeat (first | (with_reducible first | exact HB.out | apply below_alloc | apply pw_below_drewN | apply below_drew1) | exact HB.out)) hb); clear HB; have HB := n_; clear n_; clear hg hb)
    | (go_at_call 47; go_loud (refine (patterns_calls ⟨p, 0, none⟩ ⟨g, 0, none⟩ (trieOf l) s.fl s.ol 3 10 [0, 1] _ HM.out.lk (kl_trie HX.out.hin).2.1 (HX.out.fin.oll.trans HX.out.fin.fll.symm) (by omega) HX.out.hp).mono ?_); rw [ex_order]; rintro e w7 ⟨v, rfl, hR, hb⟩; obtain ⟨A7, c7, rfl, hl7, hC7⟩ := Kd.R_reads hR; have HC7 := Aside0.mk (And.intro hl7 hC7); have n_ := Aside0.mk (below_step (by repeat (first | (with_reducible first | exact HB.out | apply below_alloc | apply pw_below_drewN | apply below_drew1) | exact HB.out)) hb); clear HB; have HB := n_; clear n_; clear hb hR hl7 hC7)
    | (go_at_call 18; go_loud (refine (paronymref01_Same.calls 6000000 A7 c7 [0, 1] (some ⟨w7.heap.size, 0, none⟩) 2 [0, 1] true _ (Kd.C_alloc HC7.out.2 _) HC7.out.1 (lit_ints [0, 1] (heap_alloc_new _ _) (by simp)) (by simp) (RefS.ref_same [0, 1] [0, 1] (by simp) (by simp) 6000000 (by simp))).mono ?_); rintro e w8 ⟨rfl, ⟨nd, rfl⟩⟩)
    | (go_at_call 37; refine (fnew_nil _).mono ?_; rintro e w9 ⟨rfl, hg⟩; have hb := hg.below; have n_ := Aside0.mk (below_step (by repeat (first | (with_reducible first | exact HB.out | apply below_alloc | apply pw_below_drewN | apply below_drew1) | exact HB.out)) hb); clear HB; have HB := n_; clear n_; clear hg hb))
  go_ret
  exact ⟨by first | rfl | simp, (by repeat (first | (with_reducible first | exact HB.out | apply below_alloc | apply pw_below_drewN | apply below_drew1) | exact HB.out))⟩
end Go.Proofs.Ytgfmplhpoblleaa.FailW
end
section
/- The statement FailGoes, walked. -/
namespace Go.Proofs.Ytgfmplhpoblleaa.FailW
open Go.RowKit Go.Shelf Go.Lib Go.Proofs Go.Proofs.YtgfmplhpoblleaaW.PrintWords Go.Proofs.YtgfmplhpoblleaaW.PrintLast Go.Proofs.YtgfmplhpoblleaaW.PrintMore Go.Proofs.Ytgfmplhpoblleaa.PRank Go.Proofs.Ytgfmplhpoblleaa.PFB Go.Proofs.Ytgfmplhpoblleaa.RankW Go.Proofs.Ytgfmplhpoblleaa.SortOwn Go.Proofs.Ytgfmplhpoblleaa
open Go.Proofs.Ytgfmplhpoblleaa.Cmps hiding dedup
set_option linter.unusedVariables false
set_option linter.unusedSimpArgs false

set_option maxHeartbeats 4000000 in
set_option maxRecDepth 100000 in
theorem goes_calls (A : Option Addr) (c : Nat) (l : List (List Int)) (n ch : Int) (w : World) (hV : Kd.V (Kd.slice 3 (Kd.int .i64)) 23 w w.heap.size (fun _ => True) (.slice A l.length c) l) :
    Calls Try.prog 9 #[.slice A l.length c, .int .i64 n, .int .i64 ch] w fun e w' => e = .returned (.bool true) ∧ Go.RowKit.Below w.heap.size w w' := by
  have HV := Aside0.mk hV
  have HB := Aside0.mk (Go.RowKit.Below.refl w.heap.size w)
  clear hV
  obtain ⟨b, hb, hbx⟩ := small_f l 10 (by omega) 6000000 (by omega)
  have HS := Aside0.mk hb
  clear hb
  cases b with
  | false =>
    clear hbx
    go_enter Try.func9, Try.ntmps9
    go_wp2_with (first | (go_at_call 33; refine (awake23_calls _).mono ?_; rintro e w2 ⟨rfl, hb2⟩; have n_ := Aside0.mk (below_step (by repeat (first | (with_reducible first | exact HB.out | apply below_alloc | apply pw_below_drewN | apply below_drew1) | exact HB.out)) hb2); clear HB; have HB := n_; clear n_; clear hb2) | (go_at_call 34; refine (paronymref22_Small.calls 6000000 A c l 10 false _ (Kd.V_reads' (Kd.V_below HV.out (by repeat (first | (with_reducible first | exact HB.out | apply below_alloc | apply pw_below_drewN | apply below_drew1) | exact HB.out)))).2.2 (Kd.V_reads' HV.out).2.1 HS.out).mono ?_; rintro e w3 ⟨rfl, ⟨nd, rfl⟩⟩))
    go_ret
    exact ⟨rfl, (by repeat (first | (with_reducible first | exact HB.out | apply below_alloc | apply pw_below_drewN | apply below_drew1) | exact HB.out))⟩
  | true =>
    have hIn : In 20 l := In.mono ⟨(hbx rfl).1, (hbx rfl).2⟩ (by omega)
    have HIn := Aside0.mk hIn
    have he := empty_f l (by have := hIn.len; omega) 6000000 (by omega)
    clear hbx
    obtain ⟨b, hb⟩ : ∃ b, l.any (·.isEmpty) = b := ⟨_, rfl⟩
    rw [hb] at he
    have HE := Aside0.mk he
    have HEm := Aside0.mk hb
    clear he hb
    cases b with
    | true =>
      clear hIn
      go_enter Try.func9, Try.ntmps9
      go_wp2_with (first | (go_at_call 33; refine (awake23_calls _).mono ?_; rintro e w2 ⟨rfl, hb2⟩; have n_ := Aside0.mk (below_step (by repeat (first | (with_reducible first | exact HB.out | apply below_alloc | apply pw_below_drewN | apply below_drew1) | exact HB.out)) hb2); clear HB; have HB := n_; clear n_; clear hb2) | (go_at_call 34; refine (paronymref22_Small.calls 6000000 A c l 10 true _ (Kd.V_reads' (Kd.V_below HV.out (by repeat (first | (with_reducible first | exact HB.out | apply below_alloc | apply pw_below_drewN | apply below_drew1) | exact HB.out)))).2.2 (Kd.V_reads' HV.out).2.1 HS.out).mono ?_; rintro e w3 ⟨rfl, ⟨nd, rfl⟩⟩) | (go_at_call 35; refine (paronymref22_Empty.calls 6000000 A c l true _ (Kd.V_reads' (Kd.V_below HV.out (by repeat (first | (with_reducible first | exact HB.out | apply below_alloc | apply pw_below_drewN | apply below_drew1) | exact HB.out)))).2.2 (Kd.V_reads' HV.out).2.1 HE.out).mono ?_; rintro e w3 ⟨rfl, ⟨nd, rfl⟩⟩))
      go_ret
      exact ⟨rfl, (by repeat (first | (with_reducible first | exact HB.out | apply below_alloc | apply pw_below_drewN | apply below_drew1) | exact HB.out))⟩
    | false =>
      obtain ⟨s, hs, hF⟩ := links_ok (kl_trie hIn).1
      have HL := Aside0.mk (And.intro hs hF)
      clear hs hF hIn
      go_enter Try.func9, Try.ntmps9
      go_wp2_with (first | (go_at_call 33; refine (awake23_calls _).mono ?_; rintro e w2 ⟨rfl, hb2⟩; have n_ := Aside0.mk (below_step (by repeat (first | (with_reducible first | exact HB.out | apply below_alloc | apply pw_below_drewN | apply below_drew1) | exact HB.out)) hb2); clear HB; have HB := n_; clear n_; clear hb2) | (go_at_call 34; refine (paronymref22_Small.calls 6000000 A c l 10 true _ (Kd.V_reads' (Kd.V_below HV.out (by repeat (first | (with_reducible first | exact HB.out | apply below_alloc | apply pw_below_drewN | apply below_drew1) | exact HB.out)))).2.2 (Kd.V_reads' HV.out).2.1 HS.out).mono ?_; rintro e w3 ⟨rfl, ⟨nd, rfl⟩⟩) | (go_at_call 35; refine (paronymref22_Empty.calls 6000000 A c l false _ (Kd.V_reads' (Kd.V_below HV.out (by repeat (first | (with_reducible first | exact HB.out | apply below_alloc | apply pw_below_drewN | apply below_drew1) | exact HB.out)))).2.2 (Kd.V_reads' HV.out).2.1 HE.out).mono ?_; rintro e w3 ⟨rfl, ⟨nd, rfl⟩⟩) | (go_at_call 36; go_loud ( refine (new_calls A c l _ (Kd.V_reads' (Kd.V_below HV.out (by repeat (first | (with_reducible first | exact HB.out | apply below_alloc | apply pw_below_drewN | apply below_drew1) | exact HB.out)))).2.2 (by have := HIn.out.len; omega) (by have := HIn.out.bnd.2; omega) HEm.out).mono ?_; rintro e w4 ⟨g, rfl, hT, hb⟩; have HT := Aside0.mk hT; have n_ := Aside0.mk (below_step (by repeat (first | (with_reducible first | exact HB.out | apply below_alloc | apply pw_below_drewN | apply below_drew1) | exact HB.out)) hb); clear HB; have HB := n_; clear n_; clear hT hb)) | (go_at_call 37; go_loud ( refine (fnew_calls _ ⟨g, 0, none⟩ (trieOf l) (textsOf l) s HT.out (kl_trie HIn.out).1 (kl_trie HIn.out).2.1 (by have := (kl_trie HIn.out).2.2.1; omega) HL.out.1).mono ?_; rintro e w5 ⟨p, od', rfl, h1, h2, h3, hb⟩; have HM := Aside0.mk (show Made w5 l ⟨g, 0, none⟩ ⟨p, 0, none⟩ s from ⟨HT.out.below hb, h1, HL.out.2⟩); have n_ := Aside0.mk (below_step (by repeat (first | (with_reducible first | exact HB.out | apply below_alloc | apply pw_below_drewN | apply below_drew1) | exact HB.out)) hb); clear HB; have HB := n_; clear n_; clear HT h1 h2 h3 hb)) | (go_at_call 38; go_loud ( refine (paronymref22_New.calls 6000000 (fun _ => True) A c l (textsOf l) w5 (Kd.V_below HV.out (by repeat (first | (with_reducible first | exact HB.out | apply below_alloc | apply pw_below_drewN | apply below_drew1) | exact HB.out))) (rnew_f HIn.out.bnd.1 (by have := HIn.out.bnd.2; omega) (by omega))).mono ?_; rintro e w6 ⟨v, rfl, hN, hb⟩; obtain ⟨A6, c6, rfl, hl6, hC6⟩ := Kd.N_reads hN; have HC6 := Aside0.mk (And.intro hl6 hC6); have m_ := Aside0.mk (HM.out.below hb); clear HM; have HM := m_; have n_ := Aside0.mk (below_step (by repeat (first | (with_reducible first | exact HB.out | apply below_alloc | apply pw_below_drewN | apply below_drew1) | exact HB.out)) hb); clear HB; have HB := n_; clear n_; clear m_ hb hN hl6 hC6)) | (go_at_call 39; go_loud ( refine (mgo_calls HM.out HIn.out _ _).mono ?_; rintro e w7 ⟨rfl, hg⟩; have m_ := Aside0.mk (HM.out.below hg.below); clear HM; have HM := m_; have m2_ := Aside0.mk (And.intro HC6.out.1 (Kd.C_below HC6.out.2 hg.below)); clear HC6; have HC6 := m2_; have n_ := Aside0.mk (below_step (by repeat (first | (with_reducible first | exact HB.out | apply below_alloc | apply pw_below_drewN | apply below_drew1) | exact HB.out)) hg.below); clear HB; have HB := n_; clear n_; clear m_ m2_ hg)) | (go_at_call 40; go_loud ( refine (paronymref23_Go.calls 6000000 A6 c6 (textsOf l) n ch (goRef (textsOf l) n ch).1 (goRef (textsOf l) n ch).2 _ HC6.out.2 HC6.out.1 (rgo_f (kl_trie HIn.out).1 (kl_trie HIn.out).2.2.2.1 n ch (by omega))).mono ?_; rintro e w8 ⟨rfl, hb⟩; have n_ := Aside0.mk (below_step (by repeat (first | (with_reducible first | exact HB.out | apply below_alloc | apply pw_below_drewN | apply below_drew1) | exact HB.out)) hb); clear HB; have HB := n_; clear n_; clear hb)))
      go_ret
      exact ⟨by first | rfl | simp, (by repeat (first | (with_reducible first | exact HB.out | apply below_alloc | apply pw_below_drewN | apply below_drew1) | exact HB.out))⟩
end Go.Proofs.Ytgfmplhpoblleaa.FailW
end
section
/- The statement FailFew, walked. -/
namespace Go.Proofs.Ytgfmplhpoblleaa.FailW
open Go.RowKit Go.Shelf Go.Lib Go.Proofs Go.Proofs.YtgfmplhpoblleaaW.PrintWords Go.Proofs.YtgfmplhpoblleaaW.PrintLast Go.Proofs.YtgfmplhpoblleaaW.PrintMore Go.Proofs.Ytgfmplhpoblleaa.PRank Go.Proofs.Ytgfmplhpoblleaa.PFB Go.Proofs.Ytgfmplhpoblleaa.RankW Go.Proofs.Ytgfmplhpoblleaa.SortOwn Go.Proofs.Ytgfmplhpoblleaa
open Go.Proofs.Ytgfmplhpoblleaa.Cmps hiding dedup
set_option linter.unusedVariables false
set_option linter.unusedSimpArgs false

theorem mgo_at {w : World} {l : List (List Int)} {t p : Addr} {s : St} (h : Made w l t p s) (hl : In 20 l) {m : Nat} {u : List Int} (hu : (textsOf l)[m]? = some u) (c : Int) (q tk : Nat) (hq : q = (textsOf l).idxOf (lngT (textsOf l) (u ++ [c]))) (htk : tk = 1 + cnt (textsOf l) c (u.length + 1) u) :
    Calls Try.prog 39 #[.pointer (some p), .int .i64 m, .int .i64 c] w fun e w' => e = .returned (.tuple #[.int .i64 (q : Int), .int .i64 (tk : Int)]) ∧ Grows w w' := by
  have h1 := mgo_calls h hl (m : Int) c
  have hm := (List.getElem?_eq_some_iff.1 hu).1
  have e : goRef (textsOf l) m c = ((q : Int), (tk : Int)) := by
    unfold goRef
    have eg : (textsOf l).getD (m : Int).toNat [] = u := by rw [Int.toNat_natCast, List.getD_eq_getElem?_getD, hu]; rfl
    rw [if_pos (by omega), eg, hq, htk]
    push_cast
    rfl
  rw [e] at h1
  exact h1
theorem mdepth_at {w : World} {l : List (List Int)} {t p : Addr} {s : St} (h : Made w l t p s) (hl : In 20 l) {m : Nat} {u : List Int} (hu : (textsOf l)[m]? = some u) :
    Calls Try.prog 41 #[.pointer (some t), .int .i64 m] w fun e w' => e = .returned (.int .i64 (u.length : Int)) ∧ Grows w w' := by
  have h1 := depth_calls t (trieOf l) (m : Int) w h.tr
  have hS := (kl_trie hl).1
  have hm := hS.lt hu
  rw [nodeOf_nat hm, hS.depth m _ u (List.getElem?_eq_getElem hm) hu] at h1
  exact h1
set_option maxHeartbeats 8000000 in
set_option maxRecDepth 100000 in
theorem few_calls (A : Option Addr) (c : Nat) (l : List (List Int)) (A1 : Option Addr) (c1 : Nat) (tx : List Int) (w : World) (hV : Kd.V (Kd.slice 3 (Kd.int .i64)) 23 w w.heap.size (fun _ => True) (.slice A l.length c) l) (hV1 : Kd.V (Kd.int .i64) 3 w w.heap.size (fun _ => True) (.slice A1 tx.length c1) tx) :
    Calls Try.prog 10 #[.slice A l.length c, .slice A1 tx.length c1] w fun e w' => e = .returned (.bool true) ∧ Go.RowKit.Below w.heap.size w w' := by
  have HV := Aside0.mk hV
  have HV1 := Aside0.mk hV1
  have HB := Aside0.mk (Go.RowKit.Below.refl w.heap.size w)
  clear hV hV1
  obtain ⟨b, hb, hbx⟩ := small_f l 20 (by omega) 6000000 (by omega)
  have HS := Aside0.mk hb
  clear hb
  cases b with
  | false =>
    clear hbx
    go_enter Try.func10, Try.ntmps10
    go_wp2_with (first | (go_at_call 33; refine (awake23_calls _).mono ?_; rintro e w2 ⟨rfl, hb2⟩; have n_ := Aside0.mk (below_step (by repeat (first | (with_reducible first | exact HB.out | apply below_alloc | apply pw_below_drewN | apply below_drew1) | exact HB.out)) hb2); clear HB; have HB := n_; clear n_; clear hb2) | (go_at_call 34; refine (paronymref22_Small.calls 6000000 A c l 20 false _ (Kd.V_reads' (Kd.V_below HV.out (by repeat (first | (with_reducible first | exact HB.out | apply below_alloc | apply pw_below_drewN | apply below_drew1) | exact HB.out)))).2.2 (Kd.V_reads' HV.out).2.1 HS.out).mono ?_; rintro e w3 ⟨rfl, ⟨nd, rfl⟩⟩))
    go_ret
    exact ⟨rfl, (by repeat (first | (with_reducible first | exact HB.out | apply below_alloc | apply pw_below_drewN | apply below_drew1) | exact HB.out))⟩
  | true =>
    have hIn : In 20 l := ⟨(hbx rfl).1, (hbx rfl).2⟩
    have HIn := Aside0.mk hIn
    have he := empty_f l (by have := hIn.len; omega) 6000000 (by omega)
    clear hbx
    obtain ⟨b, hb⟩ : ∃ b, l.any (·.isEmpty) = b := ⟨_, rfl⟩
    rw [hb] at he
    have HE := Aside0.mk he
    have HEm := Aside0.mk hb
    clear he hb
    cases b with
    | true =>
      clear hIn
      go_enter Try.func10, Try.ntmps10
      go_wp2_with (first | (go_at_call 33; refine (awake23_calls _).mono ?_; rintro e w2 ⟨rfl, hb2⟩; have n_ := Aside0.mk (below_step (by repeat (first | (with_reducible first | exact HB.out | apply below_alloc | apply pw_below_drewN | apply below_drew1) | exact HB.out)) hb2); clear HB; have HB := n_; clear n_; clear hb2) | (go_at_call 34; refine (paronymref22_Small.calls 6000000 A c l 20 true _ (Kd.V_reads' (Kd.V_below HV.out (by repeat (first | (with_reducible first | exact HB.out | apply below_alloc | apply pw_below_drewN | apply below_drew1) | exact HB.out)))).2.2 (Kd.V_reads' HV.out).2.1 HS.out).mono ?_; rintro e w3 ⟨rfl, ⟨nd, rfl⟩⟩) | (go_at_call 35; refine (paronymref22_Empty.calls 6000000 A c l true _ (Kd.V_reads' (Kd.V_below HV.out (by repeat (first | (with_reducible first | exact HB.out | apply below_alloc | apply pw_below_drewN | apply below_drew1) | exact HB.out)))).2.2 (Kd.V_reads' HV.out).2.1 HE.out).mono ?_; rintro e w3 ⟨rfl, ⟨nd, rfl⟩⟩))
      go_ret
      exact ⟨rfl, (by repeat (first | (with_reducible first | exact HB.out | apply below_alloc | apply pw_below_drewN | apply below_drew1) | exact HB.out))⟩
    | false =>
      by_cases h200 : 200 < tx.length
      · have d200 : (200 : Int) < (tx.length : Int) := by omega
        clear hIn
        go_enter Try.func10, Try.ntmps10
        go_wp2_with (first | (go_at_call 33; refine (awake23_calls _).mono ?_; rintro e w2 ⟨rfl, hb2⟩; have n_ := Aside0.mk (below_step (by repeat (first | (with_reducible first | exact HB.out | apply below_alloc | apply pw_below_drewN | apply below_drew1) | exact HB.out)) hb2); clear HB; have HB := n_; clear n_; clear hb2) | (go_at_call 34; refine (paronymref22_Small.calls 6000000 A c l 20 true _ (Kd.V_reads' (Kd.V_below HV.out (by repeat (first | (with_reducible first | exact HB.out | apply below_alloc | apply pw_below_drewN | apply below_drew1) | exact HB.out)))).2.2 (Kd.V_reads' HV.out).2.1 HS.out).mono ?_; rintro e w3 ⟨rfl, ⟨nd, rfl⟩⟩) | (go_at_call 35; refine (paronymref22_Empty.calls 6000000 A c l false _ (Kd.V_reads' (Kd.V_below HV.out (by repeat (first | (with_reducible first | exact HB.out | apply below_alloc | apply pw_below_drewN | apply below_drew1) | exact HB.out)))).2.2 (Kd.V_reads' HV.out).2.1 HE.out).mono ?_; rintro e w3 ⟨rfl, ⟨nd, rfl⟩⟩))
        go_ret
        exact ⟨rfl, (by repeat (first | (with_reducible first | exact HB.out | apply below_alloc | apply pw_below_drewN | apply below_drew1) | exact HB.out))⟩
      · have d200 : ¬ ((200 : Int) < (tx.length : Int)) := by omega
        obtain ⟨s, hs, hF⟩ := links_ok (kl_trie hIn).1
        have HL := Aside0.mk (And.intro hs hF)
        clear hs hF hIn
        go_enter Try.func10, Try.ntmps10
        go_wp2_with (first | (go_at_call 33; refine (awake23_calls _).mono ?_; rintro e w2 ⟨rfl, hb2⟩; have n_ := Aside0.mk (below_step (by repeat (first | (with_reducible first | exact HB.out | apply below_alloc | apply pw_below_drewN | apply below_drew1) | exact HB.out)) hb2); clear HB; have HB := n_; clear n_; clear hb2) | (go_at_call 34; refine (paronymref22_Small.calls 6000000 A c l 20 true _ (Kd.V_reads' (Kd.V_below HV.out (by repeat (first | (with_reducible first | exact HB.out | apply below_alloc | apply pw_below_drewN | apply below_drew1) | exact HB.out)))).2.2 (Kd.V_reads' HV.out).2.1 HS.out).mono ?_; rintro e w3 ⟨rfl, ⟨nd, rfl⟩⟩) | (go_at_call 35; refine (paronymref22_Empty.calls 6000000 A c l false _ (Kd.V_reads' (Kd.V_below HV.out (by repeat (first | (with_reducible first | exact HB.out | apply below_alloc | apply pw_below_drewN | apply below_drew1) | exact HB.out)))).2.2 (Kd.V_reads' HV.out).2.1 HE.out).mono ?_; rintro e w3 ⟨rfl, ⟨nd, rfl⟩⟩) | (go_at_call 36; refine (new_calls A c l _ (Kd.V_reads' (Kd.V_below HV.out (by repeat (first | (with_reducible first | exact HB.out | apply below_alloc | apply pw_below_drewN | apply below_drew1) | exact HB.out)))).2.2 (by have := HIn.out.len; omega) (by have := HIn.out.bnd.2; omega) HEm.out).mono ?_; rintro e w4 ⟨g, rfl, hT, hb⟩; have HT := Aside0.mk hT; have n_ := Aside0.mk (below_step (by repeat (first | (with_reducible first | exact HB.out | apply below_alloc | apply pw_below_drewN | apply below_drew1) | exact HB.out)) hb); clear HB; have HB := n_; clear n_; clear hT hb) | (go_at_call 37; refine (fnew_calls _ ⟨g, 0, none⟩ (trieOf l) (textsOf l) s HT.out (kl_trie HIn.out).1 (kl_trie HIn.out).2.1 (by have := (kl_trie HIn.out).2.2.1; omega) HL.out.1).mono ?_; rintro e w5 ⟨p, od', rfl, h1, h2, h3, hb⟩; have HM := Aside0.mk (show Made w5 l ⟨g, 0, none⟩ ⟨p, 0, none⟩ s from ⟨HT.out.below hb, h1, HL.out.2⟩); have n_ := Aside0.mk (below_step (by repeat (first | (with_reducible first | exact HB.out | apply below_alloc | apply pw_below_drewN | apply below_drew1) | exact HB.out)) hb); clear HB; have HB := n_; clear n_; clear HT h1 h2 h3 hb))
        have HM0 := Aside0.mk (And.intro HM.out HB.out)
        go_loopw [8, 9, 10] (fun v8 v9 v10 wr => ∃ (m tot i : Nat) (u : List Int), v8 = .int .i64 m ∧ v9 = .int .i64 tot ∧ v10 = .int .i64 i ∧ (textsOf l)[m]? = some u ∧ tot + u.length ≤ 2 * i ∧ i ≤ tx.length ∧ Made wr l ⟨g, 0, none⟩ ⟨p, 0, none⟩ s ∧ Go.RowKit.Below w.heap.size w wr) (fun v8 v9 v10 wr => tx.length - (intOf v10).toNat)
        case atStart => exact ⟨0, 0, 0, [], rfl, rfl, rfl, (kl_trie HIn.out).1.root, by simp, Nat.zero_le _, HM0.out.1, HM0.out.2⟩
        case round =>
          clear HM HB
          obtain ⟨m, tot, i, u, rfl, rfl, rfl, hu, hle, hi, hM, hB⟩ := hrel
          have HM := Aside0.mk hM
          have HB := Aside0.mk hB
          clear hM hB
          by_cases hlt : i < tx.length
          · obtain ⟨ad, rfl, hcell⟩ := int_at (Kd.V_reads' (Kd.V_below HV1.out HB.out)).2.2 i hlt
            have il : (i : Int) < (tx.length : Int) := by omega
            generalize tx[i] = ch at hcell
            obtain ⟨v, hv⟩ : ∃ v, v = lngT (textsOf l) (u ++ [ch]) := ⟨_, rfl⟩
            obtain ⟨q, hq⟩ : ∃ q, q = (textsOf l).idxOf (lngT (textsOf l) (u ++ [ch])) := ⟨_, rfl⟩
            obtain ⟨tk, htk⟩ : ∃ tk, tk = 1 + cnt (textsOf l) ch (u.length + 1) u := ⟨_, rfl⟩
            have hfew := cnt_few (kl_trie HIn.out).1.closed ch (u.length + 1) u (by omega)
            rw [← hv] at hfew
            have hqv : (textsOf l)[q]? = some v := by rw [hq, hv]; exact at_idx (lngT_mem (kl_trie HIn.out).1.nil _)
            obtain ⟨t2, ht2⟩ : ∃ t2, t2 = tot + tk := ⟨_, rfl⟩
            obtain ⟨dv, hdv⟩ : ∃ dv, dv = v.length := ⟨_, rfl⟩
            obtain ⟨t3, ht3⟩ : ∃ t3, t3 = t2 + dv := ⟨_, rfl⟩
            have e1 : IntKind.i64.wrap ((tot : Int) + (tk : Int)) = (t2 : Int) := by rw [IntWalk.i64_in _ (by omega)]; omega
            have e2 : IntKind.i64.wrap ((t2 : Int) + (dv : Int)) = (t3 : Int) := by rw [IntWalk.i64_in _ (by omega)]; omega
            have e3 : IntKind.i64.wrap ((i : Int) + 1) = (i : Int) + 1 := IntWalk.i64_in _ (by omega)
            have e4 : IntKind.i64.wrap (2 * ((i : Int) + 1)) = 2 * ((i : Int) + 1) := IntWalk.i64_in _ (by omega)
            have e5 : ¬ (2 * ((i : Int) + 1) < (t3 : Int)) := by omega
            have hle2 : t2 + v.length ≤ 2 * (i + 1) := by omega
            have HQ := Aside0.mk (And.intro hq (And.intro htk (And.intro hqv (And.intro hle2 (And.intro hu hdv)))))
            clear hq htk hv hqv hle2 hle hu hfew ht2 ht3 hdv
            go_wp2_with (first
              | (go_at_call 39; go_loud (refine (mgo_at HM.out HIn.out HQ.out.2.2.2.2.1 ch q tk HQ.out.1 HQ.out.2.1).mono ?_); rintro e w7 ⟨rfl, hg⟩; have m_ := Aside0.mk (HM.out.below hg.below); clear HM; have HM := m_; have n_ := Aside0.mk (below_step (by repeat (first | (with_reducible first | exact HB.out | apply below_alloc | apply pw_below_drewN | apply below_drew1) | exact HB.out)) hg.below); clear HB; have HB := n_; clear n_; clear m_ hg)
              | (go_at_call 41; go_loud (refine (mdepth_at HM.out HIn.out HQ.out.2.2.1).mono ?_); rw [← HQ.out.2.2.2.2.2]; rintro e w8 ⟨rfl, hg⟩; have m_ := Aside0.mk (HM.out.below hg.below); clear HM; have HM := m_; have n_ := Aside0.mk (below_step (by repeat (first | (with_reducible first | exact HB.out | apply below_alloc | apply pw_below_drewN | apply below_drew1) | exact HB.out)) hg.below); clear HB; have HB := n_; clear n_; clear m_ hg))
            exact ⟨⟨q, t2, i + 1, v, rfl, rfl, by go_num, HQ.out.2.2.1, HQ.out.2.2.2.1, by omega, HM.out, HB.out⟩, by simp only [intOf]; omega⟩
          · have il : ¬ ((i : Int) < (tx.length : Int)) := by omega
            have e4 : IntKind.i64.wrap (2 * (tx.length : Int)) = 2 * (tx.length : Int) := IntWalk.i64_in _ (by omega)
            have e5 : (tot : Int) ≤ 2 * (tx.length : Int) := by omega
            go_wp2
            go_ret
            exact ⟨by first | rfl | simp, HB.out⟩
end Go.Proofs.Ytgfmplhpoblleaa.FailW
end
section
/- What the row's reading of an argument says, kind by kind: the print's own forms (Kd.K, Kd.V) from 'DataW.trod'. -/
namespace Go.Proofs.Ytgfmplhpoblleaa.OpenKd
open Go.ChangeShapes Go.WideShapes Go.ChangeAt Go.RowKit Go.Proofs.YtgfmplhpoblleaaW.PrintWords
set_option linter.unusedVariables false
section
variable {H : Type} (enc : TypeId × Value → H) (P : Program) (w : World) (base : Nat) (spare : Nat → Bool) (held : Bool)
/-- Whatever reads as of type t is of the kind. -/
def Opn {α : Type} (d : Kd α) (Q : α → Prop) (t : TypeId) : Prop := ∀ fuel cs x, DataW.trod enc P w base spare held fuel t cs = some x → ∃ a, d.K w a cs ∧ Q a
/-- The same for a struct's fields from the cell off on. -/
def OpnF {α : Type} (d : Kd α) (Q : α → Prop) (fs : List Field) (off : Nat) : Prop := ∀ (fuel : Nat) (cs : List Value), (∀ f ∈ fs, ∃ x, DataW.trod enc P w base spare held fuel f.type ((cs.drop f.offset).take (P.cellsOf f.type)) = some x) → cs.length = off + d.sz → ∃ a, d.K w a (cs.drop off) ∧ Q a
end
section
variable {H : Type} {enc : TypeId × Value → H} {P : Program} {w : World} {base : Nat} {spare : Nat → Bool} {held : Bool}
theorem opn_int {t : TypeId} {k : IntKind} (ht : P.underlying t = some (.int k)) : Opn enc P w base spare held (Kd.int k) (fun n => (Lit.int k n).wf = true) t := by
  intro fuel cs x h
  obtain ⟨m, rfl, rfl, hw⟩ := DataW.trod_int ht h
  exact ⟨m, rfl, hw⟩
theorem opn_bool {t : TypeId} (ht : P.underlying t = some .bool) : Opn enc P w base spare held Kd.bool (fun _ => True) t := by
  intro fuel cs x h
  cases fuel with
  | zero => simp [DataW.trod] at h
  | succ n =>
    unfold DataW.trod at h
    rw [ht] at h
    split at h <;> simp_all
    rename_i b
    cases b
    · exact .inl rfl
    · exact .inr rfl
theorem opn_string {t : TypeId} (ht : P.underlying t = some .string) : Opn enc P w base spare held Kd.string (fun s => s.size ≤ maxLen) t := by
  intro fuel cs x h
  cases fuel with
  | zero => simp [DataW.trod] at h
  | succ n =>
    unfold DataW.trod at h
    rw [ht] at h
    split at h <;> simp_all
    exact ⟨_, rfl, h.1⟩
/-- Each of a row's elements, chosen. -/
theorem choose_row {α : Type} {R : Nat → α → Prop} : ∀ n, (∀ i, i < n → ∃ a, R i a) → ∃ l : List α, l.length = n ∧ ∀ i a, l[i]? = some a → R i a
  | 0, _ => ⟨[], rfl, fun i a h => by simp at h⟩
  | n + 1, h => by
    obtain ⟨l, hl, hr⟩ := choose_row n (fun i hi => h i (by omega))
    obtain ⟨a, ha⟩ := h n (by omega)
    refine ⟨l ++ [a], by simp [hl], fun i b hb => ?_⟩
    rcases Nat.lt_or_ge i n with hi | hi
    · rw [List.getElem?_append_left (by omega)] at hb
      exact hr i b hb
    · rw [List.getElem?_append_right (by omega), hl] at hb
      have : i = n := by
        rcases Nat.lt_or_ge (i - n) 1 with h1 | h1
        · omega
        · rw [List.getElem?_eq_none (by simpa using h1)] at hb; cases hb
      subst this
      simp at hb
      subst hb
      exact ha
theorem add_add (a : Addr) (i j : Nat) : w.cell? ((a.add i).add j) = w.cell? (a.add (i + j)) := by
  unfold Addr.add
  by_cases h1 : i = 0
  · subst h1; simp
  · by_cases h2 : j = 0
    · subst h2; simp
    · simp [h1, h2, Nat.add_assoc]
theorem opn_slice {α : Type} {d : Kd α} {Q : α → Prop} {t e : TypeId} (e0 : Nat) (ht : P.underlying t = some (.slice e)) (hsz : P.cellsOf e = d.sz) (h : Opn enc P w base spare held d Q e) :
    Opn enc P w base spare held (Kd.slice e0 d) (fun l => l.length ≤ maxLen ∧ ∀ x ∈ l, Q x) t := by
  intro fuel cs x hx
  rcases DataW.trod_slice ht hx with ⟨rfl, -⟩ | ⟨a, len, cap, elems, rest, n, -, rfl, -, -, hl, hm, hlen, hel, -⟩
  · exact ⟨[], ⟨none, 0, rfl, Nat.le_refl _, Kd.C_nil d w⟩, by simp, by simp⟩
  · have each : ∀ i, i < len → ∃ y : α, (∃ c, c.length = d.sz ∧ d.K w y c ∧ ∀ j u, c[j]? = some u → w.cell? (a.add (i * d.sz + j)) = some u) ∧ Q y := by
      intro i hi
      have h1 := hel i hi
      rw [List.getElem?_eq_getElem (by omega), Option.bind_eq_some_iff] at h1
      obtain ⟨c, hc, hc2⟩ := h1
      obtain ⟨y, hy, hq⟩ := h n c _ hc2
      refine ⟨y, ⟨c, d.K_len hy, hy, fun j u hj => ?_⟩, hq⟩
      obtain ⟨-, hcl, hcell⟩ := World.cells?_some hc
      have hjl := (List.getElem?_eq_some_iff.1 hj).1
      have := hcell j (by omega)
      rw [add_add, hsz] at this
      rw [this, hj]
    obtain ⟨l, hll, hlr⟩ := choose_row len each
    refine ⟨l, ⟨some a, cap, by rw [hll], by omega, by rw [hll]; exact ⟨hll, by unfold maxLen at hm; omega, fun _ => ⟨a, rfl, fun j p hj => (hlr j p hj).1⟩⟩⟩, by omega, fun y hy => ?_⟩
    obtain ⟨j, hj⟩ := List.getElem?_of_mem hy
    exact (hlr j y hj).2
theorem opn_iso {α β : Type} {d : Kd α} {Q : α → Prop} {t : TypeId} (f : β → α) (g : α → β) (hg : ∀ a, f (g a) = a) (h : Opn enc P w base spare held d Q t) : Opn enc P w base spare held (Kd.iso d f) (fun b => Q (f b)) t := by
  intro fuel cs x hx
  obtain ⟨a, ha, hq⟩ := h fuel cs x hx
  exact ⟨g a, by show d.K w (f (g a)) cs; rw [hg]; exact ha, by show Q (f (g a)); rw [hg]; exact hq⟩
theorem opnF_one {α : Type} {d : Kd α} {Q : α → Prop} {f : Field} {off : Nat} (ho : f.offset = off) (hsz : P.cellsOf f.type = d.sz) (h : Opn enc P w base spare held d Q f.type) : OpnF enc P w base spare held d Q [f] off := by
  intro fuel cs hx hl
  obtain ⟨x, hx⟩ := hx f (by simp)
  obtain ⟨a, ha, hq⟩ := h fuel _ x hx
  refine ⟨a, ?_, hq⟩
  rw [ho, hsz, List.take_of_length_le (by simp; omega)] at ha
  exact ha
theorem opnF_cons {α β : Type} {d : Kd α} {d' : Kd β} {Q : α → Prop} {Q' : β → Prop} {f : Field} {fs : List Field} {off : Nat} (ho : f.offset = off) (hsz : P.cellsOf f.type = d.sz) (h : Opn enc P w base spare held d Q f.type)
    (h' : OpnF enc P w base spare held d' Q' fs (off + d.sz)) : OpnF enc P w base spare held (Kd.pair d d') (fun p => Q p.1 ∧ Q' p.2) (f :: fs) off := by
  intro fuel cs hx hl
  have hl' : cs.length = off + (d.sz + d'.sz) := hl
  obtain ⟨x, hx0⟩ := hx f (by simp)
  obtain ⟨a, ha, hq⟩ := h fuel _ x hx0
  obtain ⟨b, hb, hq'⟩ := h' fuel cs (fun g hg => hx g (by simp [hg])) (by omega)
  refine ⟨(a, b), ⟨(cs.drop off).take d.sz, (cs.drop off).drop d.sz, (List.take_append_drop _ _).symm, ?_, ?_⟩, hq, hq'⟩
  · rw [ho, hsz] at ha; exact ha
  · rw [List.drop_drop]; exact hb
theorem opn_struct {α : Type} {d : Kd α} {Q : α → Prop} {t : TypeId} {fs : Array Field} (ht : P.underlying t = some (.struct fs)) (hsz : P.cellsOf t = d.sz) (h : OpnF enc P w base spare held d Q fs.toList 0) : Opn enc P w base spare held d Q t := by
  intro fuel cs x hx
  obtain ⟨xs, n, -, -, hl, hls, hf⟩ := DataW.trod_struct ht hx
  obtain ⟨a, ha, hq⟩ := h n cs (fun f hm => by
    obtain ⟨i, hi⟩ := List.getElem?_of_mem hm
    have hi2 : fs[i]? = some f := by simpa using hi
    have := hf i f hi2
    have hlt : i < xs.length := by have := (Array.getElem?_eq_some_iff.1 hi2).1; omega
    rw [List.getElem?_eq_getElem hlt] at this
    exact ⟨_, this⟩) (by omega)
  exact ⟨a, by simpa using ha, hq⟩
/-- A slice, as the walk of a law wants it. -/
theorem Opn.V {α : Type} {d : Kd α} {Q : List α → Prop} {t : TypeId} {v : Value} {x : DataW H} {ps : List MemPlace} (e0 : Nat) (hd : Kd.Heap d) (h : Opn enc P w base spare held (Kd.slice e0 d) Q t) (hv : v.cells.toList = [v])
    (hx : DataW.Trod enc P w base spare held t v x ps) : ∃ A c l, v = .slice A l.length c ∧ Q l ∧ Kd.V d e0 w w.heap.size (fun _ => True) (.slice A l.length c) l := by
  obtain ⟨fuel, hx⟩ := hx
  rw [hv] at hx
  obtain ⟨l, ⟨A, c, he, hl, hC⟩, hq⟩ := h _ _ _ hx
  injection he with he
  exact ⟨A, c, l, he, hq, Kd.V_mk hl (fun W' hW => hd.C (fun k hk => hW k trivial hk) hC)⟩
end
end Go.Proofs.Ytgfmplhpoblleaa.OpenKd
end
