/- match: what is found in a text that is joined (plain). -/
import Derived.Test.YtgfmplhpoblleaaMB13
namespace Go.Proofs.Ytgfmplhpoblleaa.FailW
open Go.RowKit Go.Shelf Go.Lib Go.Proofs Go.Proofs.YtgfmplhpoblleaaW.PrintWords Go.Proofs.YtgfmplhpoblleaaW.PrintLast Go.Proofs.YtgfmplhpoblleaaW.PrintMore Go.Proofs.Ytgfmplhpoblleaa.PRank Go.Proofs.Ytgfmplhpoblleaa.PFB Go.Proofs.Ytgfmplhpoblleaa.RankW Go.Proofs.Ytgfmplhpoblleaa.SortOwn Go.Proofs.Ytgfmplhpoblleaa
open Go.Proofs.Ytgfmplhpoblleaa.Cmps hiding dedup
set_option linter.unusedVariables false
set_option linter.unusedSimpArgs false
/-! ### What is found in a text that is joined -/
/-- Does a hit end within so many numbers? -/
def inA (l : List (List Int)) (n : Nat) (h : S71) : Bool := decide (h.f1 + (((l.getD h.f0.toNat []).length : Nat) : Int) ≤ n)
/-- Does it begin behind so many? -/
def inB (n : Nat) (h : S71) : Bool := decide ((n : Int) ≤ h.f1)
def shB (n : Nat) (h : S71) : S71 := ⟨h.f0, h.f1 - n⟩
theorem st_left (a b p : List Int) (k : Nat) (h : k + p.length ≤ a.length) : stB (a ++ b) p k = stB a p k := by
  unfold stB
  rw [decide_eq_decide]
  have e : ((a ++ b).drop k).take p.length = (a.drop k).take p.length := by
    rw [List.drop_append_of_le_length (by omega), List.take_append_of_le_length (by rw [List.length_drop]; omega)]
  rw [Int.toNat_natCast, e, List.length_append]
  constructor
  · rintro ⟨h0, h1, h2⟩; exact ⟨h0, by omega, h2⟩
  · rintro ⟨h0, h1, h2⟩; exact ⟨h0, by omega, h2⟩
theorem st_right (a b p : List Int) (k : Nat) : stB (a ++ b) p ((a.length + k : Nat) : Int) = stB b p k := by
  unfold stB
  rw [decide_eq_decide]
  have e : ((a ++ b).drop (a.length + k)).take p.length = (b.drop k).take p.length := by
    rw [← List.drop_drop, List.drop_left]
  rw [Int.toNat_natCast, Int.toNat_natCast, e, List.length_append]
  constructor
  · rintro ⟨h0, h1, h2⟩; exact ⟨by omega, by omega, h2⟩
  · rintro ⟨h0, h1, h2⟩; exact ⟨by omega, by omega, h2⟩
theorem join_left (l : List (List Int)) (hne : ∀ p ∈ l, p ≠ []) (a b : List Int) : (findD l (a ++ b) 0 (a ++ b).length).filter (inA l a.length) = findD l a 0 a.length := by
  refine rise_extR (R := ltH) (fun a b h1 h2 => by unfold ltH at h1 h2; omega) _ _ ((findD_rise l _ _ _).filter _) (findD_rise l a _ _) (fun q => ?_)
  rw [List.mem_filter, mem_findD, mem_findD]
  constructor
  · rintro ⟨⟨i, k, p, rfl, h1, h2, h3, h4⟩, h5⟩
    have h6 := of_decide_eq_true h5
    have e : l.getD (i : Int).toNat [] = p := by rw [Int.toNat_natCast, List.getD_eq_getElem?_getD, h3]; rfl
    simp only at h6
    rw [e] at h6
    have hp : 0 < p.length := List.length_pos_iff.2 (hne p (List.mem_of_getElem? h3))
    exact ⟨i, k, p, rfl, h1, by omega, h3, by rw [← st_left a b p k (by omega)]; exact h4⟩
  · rintro ⟨i, k, p, rfl, h1, h2, h3, h4⟩
    have hk : k + p.length ≤ a.length := by
      unfold stB at h4
      have := (of_decide_eq_true h4).2.1
      omega
    have e : l.getD (i : Int).toNat [] = p := by rw [Int.toNat_natCast, List.getD_eq_getElem?_getD, h3]; rfl
    refine ⟨⟨i, k, p, rfl, h1, by rw [List.length_append]; omega, h3, by rw [st_left a b p k hk]; exact h4⟩, ?_⟩
    refine decide_eq_true ?_
    simp only
    rw [e]
    omega
theorem join_right (l : List (List Int)) (a b : List Int) : ((findD l (a ++ b) 0 (a ++ b).length).filter (inB a.length)).map (shB a.length) = findD l b 0 b.length := by
  refine rise_extR (R := ltH) (fun a b h1 h2 => by unfold ltH at h1 h2; omega) _ _ ?_ (findD_rise l b _ _) (fun q => ?_)
  · rw [List.pairwise_map]
    refine ((findD_rise l _ _ _).filter _).imp (fun h => ?_)
    unfold ltH shB at *
    simp only
    omega
  · rw [List.mem_map]
    constructor
    · rintro ⟨h, hm, rfl⟩
      rw [List.mem_filter, mem_findD] at hm
      obtain ⟨⟨i, k, p, rfl, h1, h2, h3, h4⟩, h5⟩ := hm
      have h6 := of_decide_eq_true h5
      simp only at h6
      rw [List.length_append] at h2
      obtain ⟨k', rfl⟩ : ∃ k', k = a.length + k' := ⟨k - a.length, by omega⟩
      rw [st_right] at h4
      rw [mem_findD]
      exact ⟨i, k', p, S71_ext rfl (by show ((a.length + k' : Nat) : Int) - (a.length : Int) = (k' : Int); omega), by omega, by omega, h3, h4⟩
    · intro hq
      obtain ⟨i, k, p, rfl, h1, h2, h3, h4⟩ := (mem_findD l b q _ _).1 hq
      refine ⟨⟨i, ((a.length + k : Nat) : Int)⟩, ?_, S71_ext rfl (by show ((a.length + k : Nat) : Int) - (a.length : Int) = (k : Int); omega)⟩
      rw [List.mem_filter, mem_findD]
      refine ⟨⟨i, a.length + k, p, rfl, by omega, by rw [List.length_append]; omega, h3, by rw [st_right]; exact h4⟩, decide_eq_true ?_⟩
      simp only
      omega
/-- The next hit that ends within is the next of the first text's. -/
theorem next_left {P : S71 → Bool} {all x : List S71} (h : all.filter P = x) {i : Nat} (hi : i < all.length) (hp : P all[i] = true) : ∃ hn : ((all.take i).filter P).length < x.length, x[((all.take i).filter P).length] = all[i] := by
  have e : x = (all.take i).filter P ++ all[i] :: (all.drop (i + 1)).filter P := by
    rw [← h]
    conv => lhs; rw [← List.take_append_drop i all, List.filter_append, List.drop_eq_getElem_cons hi, List.filter_cons_of_pos hp]
  have hn : ((all.take i).filter P).length < x.length := by rw [e]; simp
  refine ⟨hn, ?_⟩
  have h2 : x[((all.take i).filter P).length]? = some all[i] := by rw [e, List.getElem?_append_right (Nat.le_refl _)]; simp
  rw [List.getElem?_eq_getElem hn] at h2
  exact Option.some.inj h2
theorem cnt_step (P : S71 → Bool) {all : List S71} {i : Nat} (hi : i < all.length) : ((all.take (i + 1)).filter P).length = ((all.take i).filter P).length + (if P all[i] = true then 1 else 0) := by
  rw [← List.take_append_getElem hi, List.filter_append, List.length_append]
  congr 1
  by_cases h : P all[i] = true
  · rw [if_pos h, List.filter_cons_of_pos h]; rfl
  · rw [if_neg h, List.filter_cons_of_neg h]; rfl
theorem drop_step (P : S71 → Bool) (f : S71 → S71) {all : List S71} {i : Nat} (hi : i < all.length) : ((all.drop i).filter P).map f = (if P all[i] = true then [f all[i]] else []) ++ ((all.drop (i + 1)).filter P).map f := by
  rw [List.drop_eq_getElem_cons hi]
  by_cases h : P all[i] = true
  · rw [if_pos h, List.filter_cons_of_pos h]; rfl
  · rw [if_neg h, List.filter_cons_of_neg h]; rfl
end Go.Proofs.Ytgfmplhpoblleaa.FailW
