/- Whatever the code point: hangul.Apart tells what the document's answer tells, and hangul.Is tells whether it is a syllable. No condition. -/
import Derived.Test.YtgfmplhpoblleaaPHangulPartsx1
namespace Go.Proofs.Ytgfmplhpoblleaa.Pure
open Go.RowKit Go.Proofs.Ytgfmplhpoblleaa.PHangulParts Go.Proofs.YtgfmplhpoblleaaW.PrintWords Go.Proofs.YtgfmplhpoblleaaW.PrintLast

set_option linter.unusedVariables false
set_option linter.unusedSimpArgs false

/-- What a syllable's parts are, in plain numbers. -/
def partsOf (c : Int) : List Int :=
  if 44032 ≤ c ∧ c < 55204 then
    (if (c - 44032) % 28 = 0 then [4352 + (c - 44032) / 588, 4449 + (c - 44032) / 28 % 21]
     else [4352 + (c - 44032) / 588, 4449 + (c - 44032) / 28 % 21, 4519 + (c - 44032) % 28])
  else []

theorem wrap_small (x : Int) (h0 : -9223372036854775808 ≤ x) (h1 : x < 9223372036854775808) : wrap64 x = x := by
  unfold wrap64; omega

theorem within_any (a b n : Int) (ha : -1152921504606846976 ≤ a) (ha' : a ≤ 1152921504606846976) (hb : 0 ≤ b) (hb' : b ≤ 100000) (hn : 0 ≤ n) (hn' : n ≤ 100000) :
    hangul_within.f a b n = some (a - b, decide (b ≤ a ∧ a < b + n)) := by
  unfold hangul_within.f
  rw [wrap_small (a - b) (by omega) (by omega), wrap_small (b + n) (by omega) (by omega)]
  by_cases h : a ≥ b
  · rw [if_pos h]
    by_cases h2 : a < b + n
    · simp [h, h2]
    · simp [h, h2]
  · rw [if_neg h]
    have : ¬ (b ≤ a ∧ a < b + n) := fun x => h x.1
    simp [this]

theorem apart_any (c : Int) (h : -1152921504606846976 ≤ c) (h' : c ≤ 1152921504606846976) : hangul_Apart.f c = some (partsOf c) := by
  unfold hangul_Apart.f
  rw [within_any c 44032 11172 h h' (by omega) (by omega) (by omega) (by omega)]
  simp only [Option.bind_some]
  unfold partsOf
  by_cases hc : 44032 ≤ c ∧ c < 55204
  · rw [if_pos (by simp; omega), if_pos hc]
    rw [Int.tdiv_eq_ediv_of_nonneg (by omega), Int.tdiv_eq_ediv_of_nonneg (by omega), Int.tmod_eq_emod_of_nonneg (by omega : 0 ≤ c - 44032)]
    rw [wrap_small ((c - 44032) / 588) (by omega) (by omega), wrap_small ((c - 44032) / 28) (by omega) (by omega)]
    rw [Int.tmod_eq_emod_of_nonneg (by omega)]
    rw [wrap_small (4352 + _) (by omega) (by omega), wrap_small (4449 + _) (by omega) (by omega), wrap_small (4519 + _) (by omega) (by omega)]
    by_cases hz : (c - 44032) % 28 = 0
    · rw [if_neg (by omega), if_pos hz]
    · rw [if_pos (by omega), if_neg hz]
      simp
  · rw [if_neg (by simp; omega), if_neg hc]

theorem syll_any (l v : Int) (hl : 0 ≤ l) (hl' : l ≤ 100) (hv : 0 ≤ v) (hv' : v ≤ 100) : paronymref08_Syllable.f l v 0 = some (44032 + (21 * l + v) * 28) := by
  unfold paronymref08_Syllable.f
  rw [wrap_small (21 * l) (by omega) (by omega), wrap_small (21 * l + v) (by omega) (by omega), wrap_small ((21 * l + v) * 28) (by omega) (by omega), wrap_small (44032 + (21 * l + v) * 28) (by omega) (by omega), wrap_small _ (by omega) (by omega)]
  simp

theorem ref_row (c l : Int) (h : -1152921504606846976 ≤ c) (h' : c ≤ 1152921504606846976) (hl : 0 ≤ l) (hl' : l < 19) (K : Nat)
    (hnext : (44032 ≤ c ∧ c < 55204 → 588 * (l + 1) ≤ c - 44032) → ∀ k, K ≤ k → paronymref08_Apart.l0 k c (l + 1) = some (partsOf c)) (d : Nat) :
    ∀ (k : Nat) (v : Int), 0 ≤ v → v ≤ 21 → 21 - v = d → K + d < k → (44032 ≤ c ∧ c < 55204 → 28 * (21 * l + v) ≤ c - 44032) → paronymref08_Apart.l1 k c l v = some (partsOf c) := by
  induction d with
  | zero =>
    intro k v h0 h1 hd hk hi
    obtain ⟨k, rfl⟩ : ∃ m, k = m + 1 := ⟨k - 1, by omega⟩
    simp only [paronymref08_Apart.l1]
    rw [if_neg (by omega), wrap_small (l + 1) (by omega) (by omega)]
    exact hnext (fun hc => by have := hi hc; omega) k (by omega)
  | succ d ih =>
    intro k v h0 h1 hd hk hi
    obtain ⟨k, rfl⟩ : ∃ m, k = m + 1 := ⟨k - 1, by omega⟩
    simp only [paronymref08_Apart.l1]
    rw [if_pos (by omega), syll_any l v hl (by omega) h0 (by omega)]
    simp only [Option.bind_some]
    rw [wrap_small (c - _) (by omega) (by omega), wrap_small (v + 1) (by omega) (by omega), wrap_small (4352 + l) (by omega) (by omega), wrap_small (4449 + v) (by omega) (by omega)]
    by_cases e0 : c - (44032 + (21 * l + v) * 28) = 0
    · rw [if_pos e0]
      unfold partsOf
      rw [if_pos (by omega), if_pos (by omega)]
      have a1 : (c - 44032) / 588 = l := by omega
      have a2 : (c - 44032) / 28 % 21 = v := by omega
      rw [a1, a2]
    · rw [if_neg e0]
      by_cases e1 : c - (44032 + (21 * l + v) * 28) > 0
      · rw [if_pos e1]
        by_cases e2 : c - (44032 + (21 * l + v) * 28) < 28
        · rw [if_pos e2, wrap_small _ (by omega) (by omega)]
          unfold partsOf
          rw [if_pos (by omega), if_neg (by omega)]
          have a1 : (c - 44032) / 588 = l := by omega
          have a2 : (c - 44032) / 28 % 21 = v := by omega
          have a3 : (c - 44032) % 28 = c - (44032 + (21 * l + v) * 28) := by omega
          rw [a1, a2, a3]
        · rw [if_neg e2]
          exact ih k (v + 1) (by omega) (by omega) (by omega) (by omega) (fun hc => by have := hi hc; omega)
      · rw [if_neg e1]
        exact ih k (v + 1) (by omega) (by omega) (by omega) (by omega) (fun hc => by have := hi hc; omega)

theorem ref_rows (c : Int) (h : -1152921504606846976 ≤ c) (h' : c ≤ 1152921504606846976) (d : Nat) :
    ∀ (k : Nat) (l : Int), 0 ≤ l → l ≤ 19 → 19 - l = d → 30 * d < k → (44032 ≤ c ∧ c < 55204 → 588 * l ≤ c - 44032) → paronymref08_Apart.l0 k c l = some (partsOf c) := by
  induction d with
  | zero =>
    intro k l h0 h1 hd hk hi
    obtain ⟨k, rfl⟩ : ∃ m, k = m + 1 := ⟨k - 1, by omega⟩
    simp only [paronymref08_Apart.l0]
    rw [if_neg (by omega)]
    unfold partsOf
    rw [if_neg (fun hc => by have := hi hc; omega)]
  | succ d ih =>
    intro k l h0 h1 hd hk hi
    obtain ⟨k, rfl⟩ : ∃ m, k = m + 1 := ⟨k - 1, by omega⟩
    simp only [paronymref08_Apart.l0]
    rw [if_pos (by omega)]
    exact ref_row c l h h' h0 (by omega) (30 * d + 1) (fun hn k hk => ih k (l + 1) (by omega) (by omega) (by omega) (by omega) hn) 21 k 0 (by omega) (by omega) (by omega) (by omega) (fun hc => by have := hi hc; omega)

theorem ref_apart (c : Int) (h : -1152921504606846976 ≤ c) (h' : c ≤ 1152921504606846976) (k : Nat) (hk : 600 ≤ k) : paronymref08_Apart.f k c = some (partsOf c) :=
  ref_rows c h h' 19 k 0 (by omega) (by omega) (by omega) (by omega) (fun hc => by omega)

theorem same_self (l : List Int) (hl : l.length ≤ 1000000) (d : Nat) : ∀ (k : Nat) (i : Int), 0 ≤ i → i ≤ l.length → l.length - i = d → 2 * d + 2 ≤ k → paronymref01_Compare.l0 k l l i = some 0 := by
  induction d with
  | zero =>
    intro k i h0 h1 hd hk
    obtain ⟨k, rfl⟩ : ∃ m, k = m + 2 := ⟨k - 2, by omega⟩
    simp only [paronymref01_Compare.l0, paronymref01_Compare.j1]
    rw [if_neg (by omega)]
    simp
  | succ d ih =>
    intro k i h0 h1 hd hk
    obtain ⟨k, rfl⟩ : ∃ m, k = m + 2 := ⟨k - 2, by omega⟩
    simp only [paronymref01_Compare.l0, paronymref01_Compare.j1]
    have hlt : i < (l.length : Int) := by omega
    simp only [hlt, decide_true, if_true, h0]
    rw [if_neg (by omega), if_neg (by omega), wrap_small (i + 1) (by omega) (by omega)]
    exact ih k (i + 1) (by omega) (by omega) (by omega) (by omega)

theorem same_true (l : List Int) (hl : l.length ≤ 1000) (k : Nat) (hk : 2002 ≤ k) : paronymref01_Same.f k l l = some true := by
  unfold paronymref01_Same.f paronymref01_Compare.f
  rw [same_self l (by omega) l.length k 0 (by omega) (by omega) (by omega) (by omega)]
  rfl

theorem parts_len (c : Int) : (partsOf c).length ≤ 3 ∧ ((partsOf c).length > 0 ↔ (44032 ≤ c ∧ c < 55204)) := by
  unfold partsOf
  by_cases hc : 44032 ≤ c ∧ c < 55204
  · rw [if_pos hc]
    by_cases hz : (c - 44032) % 28 = 0
    · rw [if_pos hz]; simp; omega
    · rw [if_neg hz]; simp; omega
  · rw [if_neg hc]; simp; omega

theorem wf_bounds (c : Int) (h : (Lit.int .i64 c).wf = true) : -9223372036854775808 ≤ c ∧ c < 9223372036854775808 := by
  simp [Lit.wf] at h
  have e : IntKind.i64.min = -9223372036854775808 := by decide
  rw [e] at h
  omega

theorem awake_true (k : Nat) (hk : 2002 ≤ k) : paronymlaw08_awake.f k = some true := by
  unfold paronymlaw08_awake.f
  rw [apart_any 44033 (by omega) (by omega)]
  have e : partsOf 44033 = [4352, 4449, 4520] := by decide
  rw [e]
  simp only [Option.bind_some]
  rw [same_true _ (by decide) k hk]
  rfl

theorem HangulParts : paronymlaw08_HangulParts.Pure := by
  intro c hw
  refine ⟨3001, ?_⟩
  unfold paronymlaw08_HangulParts.f
  rw [awake_true 3001 (by omega)]
  simp only [Option.bind_some, if_true]
  by_cases hg : c > 1152921504606846976
  · rw [if_pos hg]
    simp only [paronymlaw08_HangulParts.j0, if_true]
    rw [awake_true 3000 (by omega)]; rfl
  · rw [if_neg hg]
    by_cases hs : c < -1152921504606846976
    · simp only [hs, decide_true, paronymlaw08_HangulParts.j0, if_true]
      rw [awake_true 3000 (by omega)]; rfl
    · simp only [hs, decide_false, paronymlaw08_HangulParts.j0, Bool.false_eq_true, if_false]
      rw [apart_any c (by omega) (by omega)]
      simp only [Option.bind_some]
      rw [ref_apart c (by omega) (by omega) 3000 (by omega)]
      simp only [Option.bind_some]
      rw [same_true _ (by have := (parts_len c).1; omega) 3000 (by omega)]
      simp only [Option.bind_some, if_true]
      unfold hangul_Is.f
      rw [within_any c 44032 11172 (by omega) (by omega) (by omega) (by omega) (by omega) (by omega)]
      simp only [Option.bind_some]
      have hp := (parts_len c).2
      by_cases hc : 44032 ≤ c ∧ c < 55204
      · have h1 := hp.mpr hc
        have e1 : decide (44032 ≤ c ∧ c < 44032 + 11172) = true := by simp; omega
        have e2 : decide (((partsOf c).length : Int) > 0) = true := by simp; omega
        rw [e1, e2]; rfl
      · have h1 : ¬ (partsOf c).length > 0 := fun h => hc (hp.mp h)
        have e1 : decide (44032 ≤ c ∧ c < 44032 + 11172) = false := by simp; omega
        have e2 : decide (((partsOf c).length : Int) > 0) = false := decide_eq_false (by omega)
        rw [e1, e2]; rfl

end Go.Proofs.Ytgfmplhpoblleaa.Pure
