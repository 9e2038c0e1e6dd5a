/- field and page: plain laws: a cursor reads back. -/
import Derived.Test.YtgfmplhpoblleaaDoorFieldG
namespace Go.Proofs.YtgfmplhpoblleaaDoor.FieldW
open Go.RowKit Go.Shelf Go.Lib Go.Proofs Go.Proofs.YtgfmplhpoblleaaDoorW.PrintWords Go.Proofs.YtgfmplhpoblleaaDoorW.PrintLast Go.Proofs.YtgfmplhpoblleaaDoorW.PrintMore Go.Proofs.YtgfmplhpoblleaaDoor.PRef
set_option linter.unusedVariables false
set_option linter.unusedSimpArgs false

/-- A digit in capitals. -/
def capD (d : Nat) : UInt8 := Lib.upperB (hexD d)
theorem capD_val (d : Nat) (h : d < 16) : digV (capD d) = d := by
  have key : ∀ d : Fin 16, digV (capD d.1) = (d.1 : Int) := by decide
  exact key ⟨d, h⟩
theorem capD_ne (d : Nat) (h : d < 16) : capD d ≠ 32 := by
  have key : ∀ d : Fin 16, capD d.1 ≠ 32 := by decide
  exact key ⟨d, h⟩
theorem capD_num (d : Nat) (h : d < 16) : capD d = UInt8.ofNat (if d < 10 then 48 + d else 55 + d) := by
  have key : ∀ d : Fin 16, capD d.1 = UInt8.ofNat (if d.1 < 10 then 48 + d.1 else 55 + d.1) := by decide
  exact key ⟨d, h⟩
/-- A number's digits in capitals. -/
def capF (k u : Nat) : List UInt8 := Lib.toUpperA (hexF k u)
theorem capF_one (k u : Nat) (h : u < 16) : capF (k + 1) u = [capD u] := by
  unfold capF; rw [hexF, if_pos h]; rfl
theorem capF_step (k u : Nat) (h : 16 ≤ u) : capF (k + 1) u = capF k (u / 16) ++ [capD (u % 16)] := by
  unfold capF; rw [hexF_step k u h]; simp [Lib.toUpperA, capD]
theorem capF_len : ∀ (k u : Nat), (capF (k + 1) u).length = (hexF (k + 1) u).length := by
  intro k u; simp [capF, Lib.toUpperA]
theorem capF_fuel : ∀ (k j u : Nat), u < 16 ^ (k + 1) → u < 16 ^ (j + 1) → capF (k + 1) u = capF (j + 1) u
  | k, j, u, hk, hj => by
    by_cases h : u < 16
    · rw [capF_one k u h, capF_one j u h]
    · rcases k with _ | k
      · simp at hk; omega
      · rcases j with _ | j
        · simp at hj; omega
        · rw [capF_step (k + 1) u (by omega), capF_step (j + 1) u (by omega), capF_fuel k j (u / 16) (by rw [Nat.pow_succ] at hk; omega) (by rw [Nat.pow_succ] at hj; omega)]
theorem capF_bytes : ∀ (k u : Nat), ∀ b ∈ capF k u, b ≠ 32
  | 0, u, b, hb => by simp [capF, hexF, Lib.toUpperA] at hb
  | k + 1, u, b, hb => by
    by_cases h : u < 16
    · rw [capF_one k u h] at hb
      simp at hb
      rw [hb]; exact capD_ne u h
    · rw [capF_step k u (by omega)] at hb
      simp at hb
      rcases hb with hb | hb
      · exact capF_bytes k _ b hb
      · rw [hb]; exact capD_ne _ (by omega)
theorem capF_le : ∀ (k u : Nat), u < 16 ^ (k + 1) → (capF (k + 1) u).length ≤ k + 1 ∧ 1 ≤ (capF (k + 1) u).length
  | k, u, h => by
    by_cases h16 : u < 16
    · rw [capF_one k u h16]; simp
    · rcases k with _ | k
      · simp at h; omega
      · rw [capF_step (k + 1) u (by omega)]
        have := capF_le k (u / 16) (by rw [Nat.pow_succ] at h; omega)
        simp; omega
theorem valF_append : ∀ (a b : List UInt8) (c : Nat), valF (a ++ b) c = (valF a c).bind (valF b)
  | [], b, c => rfl
  | x :: a, b, c => by
    rw [List.cons_append, valF, valF]
    split
    · rfl
    · exact valF_append a b _
theorem valF_capF : ∀ (k u : Nat), u < 16 ^ (k + 1) → valF (capF (k + 1) u) 0 = some u
  | k, u, h => by
    by_cases h16 : u < 16
    · rw [capF_one k u h16, valF, capD_val u h16, if_neg (by omega)]
      simp [valF]
    · rcases k with _ | k
      · simp at h; omega
      · rw [capF_step (k + 1) u (by omega), valF_append, valF_capF k (u / 16) (by rw [Nat.pow_succ] at h; omega)]
        show valF [capD (u % 16)] (u / 16) = some u
        rw [valF, capD_val _ (by omega), if_neg (by omega), valF]
        congr 1
        omega
theorem rep_eq : ∀ n, Lib.repeatL [48] n = List.replicate n 48
  | 0 => rfl
  | n + 1 => by rw [Lib.repeatL, rep_eq n, List.replicate_succ]; rfl
theorem valF_rep : ∀ n, valF (List.replicate n 48) 0 = some 0
  | 0 => rfl
  | n + 1 => by
    have h : digV 48 = 0 := by decide
    rw [List.replicate_succ, valF, h, if_neg (by omega)]
    exact valF_rep n
/-- A number's text: four capitals at the least. -/
theorem hexT_eq (n : Nat) (hn : n < 16 ^ 6) : hexT n = List.replicate (4 - (capF 6 n).length) 48 ++ capF 6 n := by
  have h := capF_fuel 7 5 n (by omega) hn
  unfold hexT
  rw [rep_eq]
  show List.replicate (4 - (hexF 8 n).length) 48 ++ capF 8 n = _
  rw [← capF_len, h]
theorem hexT_size (n : Nat) (hn : n < 16 ^ 6) : 4 ≤ (hexT n).length ∧ (hexT n).length ≤ 6 := by
  have h : (capF 6 n).length ≤ 6 ∧ 1 ≤ (capF 6 n).length := capF_le 5 n hn
  rw [hexT_eq n hn]
  simp
  omega
theorem hexT_bytes (n : Nat) (hn : n < 16 ^ 6) : ∀ b ∈ hexT n, b ≠ 32 := by
  intro b hb
  rw [hexT_eq n hn, List.mem_append] at hb
  rcases hb with hb | hb
  · rw [List.mem_replicate] at hb
    rw [hb.2]; decide
  · exact capF_bytes 6 n b hb
theorem hexT_val (n : Nat) (hn : n < 16 ^ 6) : valF (hexT n) 0 = some n := by
  rw [hexT_eq n hn, valF_append, valF_rep]
  exact valF_capF 5 n hn
theorem point_hex (n : Nat) (hn : n ≤ 1114111) : pointS (hexT n) = some n := by
  have h6 : n < 16 ^ 6 := by omega
  have h := hexT_size n h6
  unfold pointS
  rw [if_neg (by omega), hexT_val n h6]
  show (if 1114111 < n then none else if hexT n = hexT n then some n else none) = some n
  rw [if_neg (by omega), if_pos rfl]
theorem cutL_one : ∀ (p : List UInt8), (∀ b ∈ p, b ≠ 32) → cutL p = [p]
  | [], _ => rfl
  | b :: r, h => by
    have hb : (b == 32) = false := by rw [beq_eq_false_iff_ne]; exact h b (by simp)
    rw [cutL, hb, cutL_one r (fun x hx => h x (by simp [hx]))]
    rfl
theorem cutL_more : ∀ (p q : List UInt8), (∀ b ∈ p, b ≠ 32) → cutL (p ++ 32 :: q) = p :: cutL q
  | [], q, _ => by
    rw [List.nil_append, cutL]; rfl
  | b :: r, q, h => by
    have hb : (b == 32) = false := by rw [beq_eq_false_iff_ne]; exact h b (by simp)
    rw [List.cons_append, cutL, hb, cutL_more r q (fun x hx => h x (by simp [hx]))]
    rfl
theorem joinTail_cons (y : List UInt8) (t : List (List UInt8)) : Lib.joinTail [32] (y :: t) = 32 :: (y ++ Lib.joinTail [32] t) := by
  simp [Lib.joinTail]
theorem cutL_tail : ∀ (t : List (List UInt8)) (p : List UInt8), (∀ b ∈ p, b ≠ 32) → (∀ x ∈ t, ∀ b ∈ x, b ≠ 32) → cutL (p ++ Lib.joinTail [32] t) = p :: t
  | [], p, hp, _ => by
    have : Lib.joinTail [32] ([] : List (List UInt8)) = [] := rfl
    rw [this, List.append_nil]
    exact cutL_one p hp
  | y :: t, p, hp, h => by
    rw [joinTail_cons, cutL_more p _ hp, cutL_tail t y (h y (by simp)) (fun x hx => h x (by simp [hx]))]
theorem cutL_join (x : List UInt8) (t : List (List UInt8)) (h : ∀ y ∈ x :: t, ∀ b ∈ y, b ≠ 32) : cutL (Lib.join (x :: t) [32]) = x :: t := by
  rw [Lib.join_cons]
  exact cutL_tail t x (h x (by simp)) (fun y hy => h y (by simp [hy]))
theorem good_of {l : List Int} (h : l.any badC = false) : ∀ c ∈ l, 0 ≤ c ∧ c ≤ 1114111 := by
  intro c hc
  have h1 := (List.any_eq_false.1 h) c hc
  simp [badC] at h1
  omega
theorem seqL_map : ∀ (l : List Int), (∀ c ∈ l, 0 ≤ c ∧ c ≤ 1114111) → seqL (l.map fun c => hexT c.toNat) = some l
  | [], _ => rfl
  | c :: r, h => by
    have hc := h c (by simp)
    rw [List.map_cons, seqL, point_hex c.toNat (by omega), seqL_map r (fun x hx => h x (by simp [hx]))]
    show some (((c.toNat : Nat) : Int) :: r) = _
    rw [Int.toNat_of_nonneg hc.1]
theorem seqS_text (l : List Int) (h : textS l ≠ []) : seqS (textS l) = (l, 0) ∧ l ≠ [] := by
  have hany : l.any badC = false := by
    cases hb : l.any badC with
    | false => rfl
    | true => exact absurd (by unfold textS; rw [hb]; rfl) h
  have hT : textS l = Lib.join (l.map fun c => hexT c.toNat) [32] := by unfold textS; rw [hany]; rfl
  cases l with
  | nil => exact absurd hT h
  | cons c r =>
    have hg := good_of hany
    refine ⟨?_, by simp⟩
    have hcut : cutL (textS (c :: r)) = (c :: r).map fun c => hexT c.toNat := by
      rw [hT]
      refine cutL_join _ _ (fun y hy b hb => ?_)
      rw [← List.map_cons (f := fun c : Int => hexT c.toNat), List.mem_map] at hy
      obtain ⟨d, hd, rfl⟩ := hy
      exact hexT_bytes _ (by have := hg d hd; omega) b hb
    unfold seqS
    rw [if_neg h, hcut, seqL_map _ hg]
theorem back_law (l : List Int) : parseS (cursorS l) = if cursorS l = [45] then ([], 0) else if 63 < l.length then ([], 42) else (l, 0) := by
  by_cases h : textS l = []
  · have hc : cursorS l = [45] := by unfold cursorS; rw [if_pos h]
    rw [hc, if_pos rfl]
    unfold parseS
    rw [if_pos rfl]
  · have hc : cursorS l = 61 :: textS l := by unfold cursorS; rw [if_neg h]
    have hn : ¬ (61 :: textS l = [45]) := by intro e; injection e with e1 e2; cases e1
    obtain ⟨h1, h2⟩ := seqS_text l h
    have hp : Lib.hasPrefix (61 :: textS l) [61] = true := by simp [Lib.hasPrefix]
    have ht : Lib.trimPrefix (61 :: textS l) [61] = textS l := by unfold Lib.trimPrefix; rw [hp]; rfl
    rw [hc, if_neg hn]
    unfold parseS
    rw [if_neg hn]
    dsimp only
    rw [ht, h1, hp]
    have hl : l.length ≠ 0 := fun e => h2 (List.eq_nil_of_length_eq_zero e)
    by_cases h63 : 63 < l.length
    · rw [if_pos (.inr (.inr (.inr h63))), if_pos h63]
    · rw [if_neg h63, if_neg]
      rintro (e | e | e | e)
      · cases e
      · exact e rfl
      · exact hl e
      · exact h63 e
theorem parseS_len (s : List UInt8) : (parseS s).1.length ≤ 63 := by
  unfold parseS
  split
  · simp
  · dsimp only
    split
    · simp
    · rename_i h
      show (seqS (Lib.trimPrefix s [61])).1.length ≤ 63
      have : ¬ 63 < (seqS (Lib.trimPrefix s [61])).1.length := fun e => h (.inr (.inr (.inr e)))
      omega
end Go.Proofs.YtgfmplhpoblleaaDoor.FieldW
