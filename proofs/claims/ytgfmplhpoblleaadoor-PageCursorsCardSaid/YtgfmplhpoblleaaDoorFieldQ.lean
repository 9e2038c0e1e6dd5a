/- field and page: plain laws of the document's functions. -/
import Derived.Test.YtgfmplhpoblleaaDoorFieldP
import Derived.Test.YtgfmplhpoblleaaDoorPRefx2
import Derived.Test.YtgfmplhpoblleaaDoorFieldH
namespace Go.Proofs.YtgfmplhpoblleaaDoor.FieldW
open Go.RowKit Go.Shelf Go.Lib Go.Proofs Go.Proofs.YtgfmplhpoblleaaDoorW.PrintWords Go.Proofs.YtgfmplhpoblleaaDoorW.PrintLast Go.Proofs.YtgfmplhpoblleaaDoorW.PrintMore Go.Proofs.YtgfmplhpoblleaaDoor.PRef
set_option linter.unusedVariables false
set_option linter.unusedSimpArgs false

theorem wrap_small (x : Int) (h0 : -9223372036854775808 ≤ x) (h1 : x < 9223372036854775808) : wrap64 x = x := by
  unfold wrap64; omega
/-- A text out of a list. -/
def mkB (l : List UInt8) : ByteArray := ⟨l.toArray⟩
theorem mkB_size (l : List UInt8) : (mkB l).size = l.length := by show l.toArray.size = _; simp
theorem mkB_list (l : List UInt8) : (mkB l).toList = l := toList_mk l
theorem mkB_data (s : ByteArray) : mkB s.data.toList = s := by simp [mkB]
theorem mkB_append (a b : List UInt8) : mkB a ++ mkB b = mkB (a ++ b) := by
  apply ByteArray.ext
  apply Array.toList_inj.1
  rw [ByteArray.data_append, Array.toList_append]
  simp [mkB]
theorem tmod16 (m : Nat) : Int.tmod (m : Int) 16 = ((m % 16 : Nat) : Int) := by
  rw [Int.tmod_eq_emod_of_nonneg (by omega)]; omega
theorem tdiv16 (m : Nat) : Int.tdiv (m : Int) 16 = ((m / 16 : Nat) : Int) := by
  rw [Int.tdiv_eq_ediv_of_nonneg (by omega)]; omega
theorem cap_str (m : Nat) : ∀ d, d = m % 16 → strOfNums [(wrap64 ((if (d : Int) < 10 then 48 else 55) + (d : Int))) % 256] = mkB [capD (m % 16)] := by
  intro d hd
  rw [capD_num (m % 16) (by omega), ← hd]
  have hd16 : d < 16 := by omega
  unfold strOfNums mkB
  by_cases h : d < 10
  · rw [if_pos (by omega), if_pos h, wrap_small _ (by omega) (by omega)]
    have : (((48 : Int) + d) % 256).toNat = 48 + d := by omega
    simp [this]
  · rw [if_neg (by omega), if_neg h, wrap_small _ (by omega) (by omega)]
    have : (((55 : Int) + d) % 256).toNat = 55 + d := by omega
    simp [this]
/-- One turn of the document's Hex. -/
theorem hex_turn (K : Nat) (x : List UInt8) (m : Nat) (hx : x.length ≤ 1000) : paronymref02_Hex.j1 (K + 1) (mkB x) m true = paronymref02_Hex.l0 K (mkB (capD (m % 16) :: x)) ((m / 16 : Nat) : Int) → True := fun _ => trivial
theorem hex_j (K : Nat) (x : List UInt8) (m : Nat) (hm : m < 16 ^ 6) (hx : x.length ≤ 1000) : paronymref02_Hex.j1 (K + 1) (mkB x) m true = paronymref02_Hex.l0 K (mkB (capD (m % 16) :: x)) ((m / 16 : Nat) : Int) := by
  have e := cap_str m (m % 16) rfl
  have w1 : wrap64 (((m / 16 : Nat) : Int)) = ((m / 16 : Nat) : Int) := wrap_small _ (by omega) (by omega)
  have hs : (mkB [capD (m % 16)]).size + (mkB x).size ≤ 9223372036854775807 := by rw [mkB_size, mkB_size]; simp; omega
  have hc : mkB [capD (m % 16)] ++ mkB x = mkB (capD (m % 16) :: x) := mkB_append _ _
  rw [paronymref02_Hex.j1, if_pos rfl, tmod16, tdiv16, w1]
  by_cases h : ((m % 16 : Nat) : Int) < 10
  · rw [if_pos h] at e
    rw [if_pos h, Option.bind_some, e, if_pos hs, hc]
  · rw [if_neg h] at e
    rw [if_neg h, Option.bind_some, e, if_pos hs, hc]
theorem hex_end (d : Nat) : ∀ (K : Nat) (x : List UInt8), 4 - x.length ≤ d → x.length ≤ 1000 → 2 * d + 4 ≤ K → paronymref02_Hex.l0 K (mkB x) 0 = some (mkB (List.replicate (4 - x.length) 48 ++ x)) := by
  induction d with
  | zero =>
    intro K x h4 hx hK
    obtain ⟨K, rfl⟩ : ∃ k, K = k + 2 := ⟨K - 2, by omega⟩
    have h5 : decide (((mkB x).size : Int) < 4) = false := by rw [mkB_size]; exact decide_eq_false (by omega)
    rw [paronymref02_Hex.l0, if_neg (by omega), h5, paronymref02_Hex.j1, if_neg (by simp)]
    rw [show 4 - x.length = 0 by omega]; rfl
  | succ d ih =>
    intro K x h4 hx hK
    obtain ⟨K, rfl⟩ : ∃ k, K = k + 2 := ⟨K - 2, by omega⟩
    rw [paronymref02_Hex.l0, if_neg (by omega)]
    by_cases h : x.length < 4
    · have h5 : decide (((mkB x).size : Int) < 4) = true := by rw [mkB_size]; exact decide_eq_true (by omega)
      have hj := hex_j K x 0 (by omega) hx
      have hj' : paronymref02_Hex.j1 (K + 1) (mkB x) 0 true = paronymref02_Hex.l0 K (mkB (48 :: x)) 0 := hj
      rw [h5, hj', ih K (48 :: x) (by simp; omega) (by simp; omega) (by omega)]
      congr 2
      rw [List.length_cons, show 4 - x.length = (4 - (x.length + 1)) + 1 by omega, List.replicate_succ']
      simp
    · have h5 : decide (((mkB x).size : Int) < 4) = false := by rw [mkB_size]; exact decide_eq_false (by omega)
      rw [h5, paronymref02_Hex.j1, if_neg (by simp)]
      rw [show 4 - x.length = 0 by omega]; rfl
theorem hex_loop : ∀ (k m : Nat), m < 16 ^ (k + 1) → k < 6 → ∀ (K : Nat) (x : List UInt8), x.length + k ≤ 100 → 2 * k + 20 ≤ K → 0 < m →
    paronymref02_Hex.l0 K (mkB x) m = some (mkB (List.replicate (4 - (capF (k + 1) m).length - x.length) 48 ++ (capF (k + 1) m ++ x)))
  | k, m, hm, hk, K, x, hx, hK, h0 => by
    have hm6 : m < 16 ^ 6 := Nat.lt_of_lt_of_le hm (Nat.pow_le_pow_right (by omega) (by omega))
    obtain ⟨K, rfl⟩ : ∃ q, K = q + 2 := ⟨K - 2, by omega⟩
    rw [paronymref02_Hex.l0, if_pos (by omega), hex_j K x m hm6 (by omega)]
    by_cases h16 : m < 16
    · rw [capF_one k m h16, show m / 16 = 0 by omega, show m % 16 = m by omega]
      have := hex_end 4 K (capD m :: x) (by omega) (by simp; omega) (by omega)
      rw [show ((0 : Nat) : Int) = 0 from rfl, this]
      have e : 4 - (capD m :: x).length = 4 - [capD m].length - x.length := by simp only [List.length_cons, List.length_nil]; omega
      rw [e]; try rfl
    · rcases k with _ | k
      · simp at hm; omega
      · rw [hex_loop k (m / 16) (by rw [Nat.pow_succ] at hm; omega) (by omega) K (capD (m % 16) :: x) (by simp; omega) (by omega) (by omega), capF_step (k + 1) m (by omega)]
        have e : 4 - (capF (k + 1) (m / 16)).length - (capD (m % 16) :: x).length = 4 - (capF (k + 1) (m / 16) ++ [capD (m % 16)]).length - x.length := by simp; omega
        rw [e]
        simp
theorem ref_hex (n : Nat) (hn : n < 16 ^ 6) (K : Nat) (hK : 40 ≤ K) : paronymref02_Hex.f K n = some (mkB (hexT n)) := by
  have e : (⟨#[]⟩ : ByteArray) = mkB [] := rfl
  unfold paronymref02_Hex.f
  rw [e]
  by_cases h0 : n = 0
  · subst h0
    have := hex_end 4 K [] (by simp) (by simp) (by omega)
    rw [show ((0 : Nat) : Int) = 0 from rfl, this]
    rfl
  · rw [hex_loop 5 n hn (by omega) K [] (by simp) (by omega) (by omega), hexT_eq n hn]
    simp
theorem bt_mkB (l : List UInt8) (i : Nat) (h : i < l.length) : bt (mkB l) (i : Int) = ((l[i]'h).toNat : Int) := by
  unfold bt mkB
  have h2 : ((i : Int)).toNat < (⟨l.toArray⟩ : ByteArray).size := by show i < l.toArray.size; simpa using h
  rw [dif_pos h2]
  rfl
theorem indexByte_miss : ∀ (l : List UInt8) (b : UInt8), b ∉ l → Lib.indexByte l b = -1
  | [], b, _ => rfl
  | x :: r, b, h => by
    have hx : x ≠ b := fun e => h (by simp [e])
    have hr := indexByte_miss r b (fun e => h (by simp [e]))
    rw [Lib.indexByte, if_neg (by simpa using hx), hr]; rfl
theorem nat_of_b (b : UInt8) (n : Nat) (hn : n < 256) (h : b.toNat = n) : b = UInt8.ofNat n := by
  apply UInt8.toNat_inj.1; rw [h]; simp; omega
theorem digV_eq (b : UInt8) : digV b = if 48 ≤ b.toNat ∧ b.toNat ≤ 57 then (b.toNat : Int) - 48 else if 65 ≤ b.toNat ∧ b.toNat ≤ 70 then (b.toNat : Int) - 55 else -1 := by
  have key1 : ∀ d : Fin 10, digV (UInt8.ofNat (48 + d.1)) = (d.1 : Int) := by decide
  have key2 : ∀ d : Fin 6, digV (UInt8.ofNat (65 + d.1)) = (d.1 : Int) + 10 := by decide
  by_cases h : 48 ≤ b.toNat ∧ b.toNat ≤ 57
  · rw [if_pos h]
    have k := key1 ⟨b.toNat - 48, by omega⟩
    rw [← nat_of_b b (48 + (b.toNat - 48)) (by omega) (by omega)] at k
    rw [k]; show ((b.toNat - 48 : Nat) : Int) = _; omega
  · rw [if_neg h]
    by_cases h2 : 65 ≤ b.toNat ∧ b.toNat ≤ 70
    · rw [if_pos h2]
      have k := key2 ⟨b.toNat - 65, by omega⟩
      rw [← nat_of_b b (65 + (b.toNat - 65)) (by omega) (by omega)] at k
      rw [k]; show ((b.toNat - 65 : Nat) : Int) + 10 = _; omega
    · rw [if_neg h2]
      refine indexByte_miss _ b (fun hm => ?_)
      have key3 : ∀ x ∈ capS.data.toList, (48 ≤ x.toNat ∧ x.toNat ≤ 57) ∨ (65 ≤ x.toNat ∧ x.toNat ≤ 70) := by decide
      have := key3 b hm
      omega
theorem point_j (K : Nat) (x : ByteArray) (c i d : Int) (v : Int) (hc : 0 ≤ c) (hc2 : c < 16777216) (hi : 0 ≤ i) (hi2 : i < 1000) (hd : 0 ≤ d) (hd2 : d < 256) (h48 : 48 ≤ d)
    (hv : v = if d ≤ 57 then d - 48 else if 65 ≤ d ∧ d ≤ 70 then d - 55 else -1) :
    paronymref02_Point.j2 (K + 1) x c i d (decide (d ≤ 57)) = if v < 0 then some (-1) else paronymref02_Point.l0 K x (c * 16 + v) (i + 1) := by
  rw [paronymref02_Point.j2]
  have w1 : wrap64 (c * 16) = c * 16 := wrap_small _ (by omega) (by omega)
  have w2 : wrap64 (c * 16 + d) = c * 16 + d := wrap_small _ (by omega) (by omega)
  have w3 : wrap64 (c * 16 + d - 48) = c * 16 + d - 48 := wrap_small _ (by omega) (by omega)
  have w4 : wrap64 (c * 16 + d - 55) = c * 16 + d - 55 := wrap_small _ (by omega) (by omega)
  have w5 : wrap64 (i + 1) = i + 1 := wrap_small _ (by omega) (by omega)
  rw [w1, w2, w3, w4, w5]
  by_cases h1 : d ≤ 57
  · rw [if_pos h1] at hv
    rw [decide_eq_true h1, if_pos rfl, if_neg (by omega), show c * 16 + v = c * 16 + d - 48 by omega]
  · rw [if_neg h1] at hv
    rw [decide_eq_false h1, if_neg (by decide)]
    by_cases h2 : 65 ≤ d
    · by_cases h3 : d ≤ 70
      · rw [if_pos ⟨h2, h3⟩] at hv
        rw [if_pos h2, if_pos h3, if_neg (by omega), show c * 16 + v = c * 16 + d - 55 by omega]
      · rw [if_neg (by omega)] at hv
        rw [if_pos h2, if_neg h3, if_pos (by omega)]
    · rw [if_neg (by omega)] at hv
      rw [if_neg h2, if_pos (by omega)]
theorem point_j2 (K : Nat) (x : ByteArray) (c i d : Int) (h48 : d < 48) : paronymref02_Point.j2 (K + 1) x c i d false = some (-1) := by
  rw [paronymref02_Point.j2, if_neg (by decide), if_neg (by omega)]
theorem point_turn (K : Nat) (l : List UInt8) (c i : Nat) (hc : c < 16777216) (h : i < l.length) (hl : l.length ≤ 1000) :
    paronymref02_Point.l0 (K + 2) (mkB l) c i = if digV l[i] < 0 then some (-1) else paronymref02_Point.l0 K (mkB l) ((c * 16 + (digV l[i]).toNat : Nat) : Int) ((i + 1 : Nat) : Int) := by
  have hd := digV_eq l[i]
  have h256 : (l[i]).toNat < 256 := UInt8.toNat_lt _
  have hw : wrap64 (bt (mkB l) i) = ((l[i]).toNat : Int) := by rw [bt_mkB l i h]; exact wrap_small _ (by omega) (by omega)
  rw [paronymref02_Point.l0, if_pos (by rw [mkB_size]; omega), if_pos (by omega), hw]
  by_cases h48 : 48 ≤ (l[i]).toNat
  · rw [if_pos (by omega), point_j K (mkB l) c i (l[i]).toNat (digV l[i]) (by omega) (by omega) (by omega) (by omega) (by omega) (by omega) (by omega)]
    · by_cases hv : digV l[i] < 0
      · rw [if_pos hv, if_pos hv]
      · rw [if_neg hv, if_neg hv]
        rw [show (c : Int) * 16 + digV l[i] = ((c * 16 + (digV l[i]).toNat : Nat) : Int) by omega]
        rfl
    · rw [hd]
      repeat' split
      all_goals omega
  · rw [if_neg (by omega), point_j2 K _ _ _ _ (by omega), if_pos (by rw [hd, if_neg (by omega), if_neg (by omega)]; omega)]
/-- What the document's Point answers behind a part of its text. -/
theorem point_loop (l : List UInt8) (hl : l.length ≤ 6) : ∀ (j : Nat) (i c K : Nat), i + j = l.length → c < 16 ^ i → 2 * j + 50 ≤ K →
    paronymref02_Point.l0 K (mkB l) c i = some (match (valF (l.drop i) c).bind fun c => if 1114111 < c then none else if hexT c = l then some c else none with | none => -1 | some c => (c : Int))
  | 0, i, c, K, hi, hc, hK => by
    obtain ⟨K, rfl⟩ : ∃ k, K = k + 1 := ⟨K - 1, by omega⟩
    have h6 : c < 16 ^ 6 := Nat.lt_of_lt_of_le hc (Nat.pow_le_pow_right (by omega) (by omega))
    rw [show l.drop i = [] by rw [List.drop_eq_nil_iff]; omega, valF, Option.bind_some, paronymref02_Point.l0, if_neg (by rw [mkB_size]; omega)]
    by_cases hm : 1114111 < c
    · rw [if_pos (by omega), if_pos hm]
    · rw [if_neg (by omega), if_neg hm, ref_hex c h6 K (by omega), Option.bind_some, mkB_list, mkB_list]
      by_cases he : hexT c = l
      · rw [if_pos he, if_pos he]
      · rw [if_neg he, if_neg he]
  | j + 1, i, c, K, hi, hc, hK => by
    obtain ⟨K, rfl⟩ : ∃ k, K = k + 2 := ⟨K - 2, by omega⟩
    have hil : i < l.length := by omega
    have h6 : c < 16 ^ 6 := Nat.lt_of_lt_of_le hc (Nat.pow_le_pow_right (by omega) (by omega))
    have hd : digV l[i] < 16 := (digV_lt l[i]).2
    have e6 : (16 : Nat) ^ 6 = 16777216 := by decide
    rw [point_turn K l c i (by rw [← e6]; exact h6) hil (by omega), List.drop_eq_getElem_cons hil, valF]
    by_cases hv : digV l[i] < 0
    · rw [if_pos hv, if_pos hv]; rfl
    · rw [if_neg hv, if_neg hv]
      exact point_loop l hl j (i + 1) _ K (by omega) (by rw [Nat.pow_succ]; omega) (by omega)
theorem ref_point (l : List UInt8) (K : Nat) (hK : 100 ≤ K) : paronymref02_Point.f K (mkB l) = some (match pointS l with | none => -1 | some c => (c : Int)) := by
  obtain ⟨K, rfl⟩ : ∃ k, K = k + 1 := ⟨K - 1, by omega⟩
  unfold paronymref02_Point.f pointS
  rw [mkB_size]
  by_cases h4 : l.length < 4
  · rw [if_pos (by omega), if_pos (.inl h4), paronymref02_Point.j0, if_pos rfl]
  · rw [if_neg (by omega)]
    by_cases h6 : 6 < l.length
    · rw [if_pos (.inr h6), decide_eq_true (by omega), paronymref02_Point.j0, if_pos rfl]
    · rw [if_neg (by omega), decide_eq_false (by omega), paronymref02_Point.j0, if_neg (by decide)]
      exact point_loop l (by omega) l.length 0 0 K (by omega) (by decide) (by omega)
theorem mkB_extract (l : List UInt8) (a b : Nat) : (mkB l).extract a b = mkB ((l.drop a).take (b - a)) := by
  apply ByteArray.ext
  apply Array.toList_inj.1
  rw [ByteArray.data_extract]
  simp [mkB]
theorem cut_out (K : Nat) (x : ByteArray) (out : List ByteArray) (f i : Int) (h : (x.size : Int) < i) : paronymref02_Cut.l0 (K + 1) x 32 out f i = some out := by
  rw [paronymref02_Cut.l0, if_neg (by omega)]
theorem cut_end (K : Nat) (x : ByteArray) (out : List ByteArray) (f i : Nat) (h : i = x.size) (hf : f ≤ i) (hb : i ≤ 1000000) (ho : out.length ≤ 1000000) :
    paronymref02_Cut.l0 (K + 1) x 32 out f i = paronymref02_Cut.l0 K x 32 (out ++ [x.extract f i]) ((i + 1 : Nat) : Int) ((i + 1 : Nat) : Int) := by
  have hw : wrap64 ((i : Int) + 1) = ((i + 1 : Nat) : Int) := by rw [wrap_small _ (by omega) (by omega)]; rfl
  rw [paronymref02_Cut.l0, if_pos (by omega), if_pos (by omega), if_pos (by omega), if_pos (by omega), if_pos (by omega), hw, Int.toNat_natCast, Int.toNat_natCast]
theorem cut_by (K : Nat) (l : List UInt8) (out : List ByteArray) (f i : Nat) (h : i < l.length) (hx : l[i] = 32) (hf : f ≤ i) (hb : i ≤ 1000000) (ho : out.length ≤ 1000000) :
    paronymref02_Cut.l0 (K + 1) (mkB l) 32 out f i = paronymref02_Cut.l0 K (mkB l) 32 (out ++ [(mkB l).extract f i]) ((i + 1 : Nat) : Int) ((i + 1 : Nat) : Int) := by
  have hw : wrap64 ((i : Int) + 1) = ((i + 1 : Nat) : Int) := by rw [wrap_small _ (by omega) (by omega)]; rfl
  have hs := mkB_size l
  have hbt : bt (mkB l) i = 32 := by rw [bt_mkB l i h, hx]; rfl
  rw [paronymref02_Cut.l0, if_pos (by omega), if_neg (by omega), if_pos (by omega), if_pos (by omega), if_pos hbt, if_pos (by omega), if_pos (by omega), if_pos (by omega), hw, Int.toNat_natCast, Int.toNat_natCast]
theorem cut_on (K : Nat) (l : List UInt8) (out : List ByteArray) (f i : Nat) (h : i < l.length) (hx : l[i] ≠ 32) (hb : i ≤ 1000000) :
    paronymref02_Cut.l0 (K + 1) (mkB l) 32 out f i = paronymref02_Cut.l0 K (mkB l) 32 out f ((i + 1 : Nat) : Int) := by
  have hw : wrap64 ((i : Int) + 1) = ((i + 1 : Nat) : Int) := by rw [wrap_small _ (by omega) (by omega)]; rfl
  have hs := mkB_size l
  have hbt : bt (mkB l) i ≠ 32 := by
    rw [bt_mkB l i h]
    intro e
    exact hx (UInt8.toNat_inj.1 (by show (l[i]).toNat = 32; omega))
  rw [paronymref02_Cut.l0, if_pos (by omega), if_neg (by omega), if_pos (by omega), if_pos (by omega), if_neg hbt, hw]
theorem cut_loop (l : List UInt8) (hl : l.length ≤ 1000000) : ∀ (r : List UInt8) (p : List UInt8) (f : Nat) (out : List ByteArray) (K : Nat), (∀ b ∈ p, b ≠ 32) → l.drop f = p ++ r → f ≤ l.length → out.length ≤ f → r.length + 2 ≤ K →
    paronymref02_Cut.l0 K (mkB l) 32 out f ((f + p.length : Nat) : Int) = some (out ++ (cutL (p ++ r)).map mkB)
  | [], p, f, out, K, hp, he, hf, ho, hK => by
    obtain ⟨K, rfl⟩ : ∃ k, K = k + 2 := ⟨K - 2, by omega⟩
    rw [List.append_nil] at he
    have hlen : f + p.length = l.length := by rw [← he, List.length_drop]; omega
    have hs := mkB_size l
    rw [cut_end (K + 1) (mkB l) out f (f + p.length) (by omega) (by omega) (by omega) (by omega), cut_out _ _ _ _ _ (by omega), List.append_nil, cutL_one p hp, mkB_extract, he]
    simp
  | b :: r, p, f, out, K, hp, he, hf, ho, hK => by
    obtain ⟨K, rfl⟩ : ∃ k, K = k + 1 := ⟨K - 1, by omega⟩
    have hlen : f + p.length + r.length + 1 = l.length := by
      have := congrArg List.length he
      simp at this; omega
    have hlt : f + p.length < l.length := by omega
    have hb : l[f + p.length] = b := by
      have h2 : (l.drop f)[p.length]? = some b := by rw [he]; simp
      rw [List.getElem?_drop, List.getElem?_eq_getElem hlt] at h2
      exact Option.some.inj h2
    by_cases h32 : b = 32
    · subst h32
      have hd : l.drop (f + p.length + 1) = [] ++ r := by
        have : l.drop (f + p.length + 1) = (l.drop f).drop (p.length + 1) := by rw [List.drop_drop]; congr 1
        rw [this, he]; simp
      rw [cut_by K l out f (f + p.length) hlt hb (by omega) (by omega) (by omega)]
      have ih := cut_loop l hl r [] (f + p.length + 1) (out ++ [(mkB l).extract f (f + p.length)]) K (by simp) hd (by omega) (by simp; omega) (by simp at hK; omega)
      rw [List.length_nil, Nat.add_zero] at ih
      rw [ih, cutL_more p r hp, mkB_extract, he]
      simp
    · rw [cut_on K l out f (f + p.length) hlt (by rw [hb]; exact h32) (by omega)]
      have ih := cut_loop l hl r (p ++ [b]) f out K (by intro x hx; rw [List.mem_append] at hx; rcases hx with hx | hx; exact hp x hx; simp at hx; rw [hx]; exact h32) (by rw [he]; simp) hf ho (by simp at hK; omega)
      rw [show f + p.length + 1 = f + (p ++ [b]).length by simp; omega, ih]
      simp
theorem ref_cut (l : List UInt8) (hl : l.length ≤ 1000000) (K : Nat) (hK : l.length + 2 ≤ K) : paronymref02_Cut.f K (mkB l) 32 = some ((cutL l).map mkB) := by
  have := cut_loop l hl l [] 0 [] K (by simp) (by simp) (by omega) (by simp) hK
  exact this
theorem rdOf_map (ps : List (List UInt8)) (i : Nat) (h : i < ps.length) : rdOf ByteArray.empty (ps.map mkB) (i : Int) = mkB ps[i] := by
  unfold rdOf
  rw [Int.toNat_natCast, List.getD_eq_getElem?_getD, List.getElem?_map, List.getElem?_eq_getElem h]
  rfl
theorem seq_loop (ps : List (List UInt8)) (hl : ps.length ≤ 1000001) : ∀ (j i : Nat) (acc : List Int) (K : Nat), i + j = ps.length → acc.length = i → j + 101 ≤ K →
    paronymref02_Sequence.l0 K (ps.map mkB) acc i = some (match seqL (ps.drop i) with | none => ([], 13) | some l => (acc ++ l, 0))
  | 0, i, acc, K, hi, ha, hK => by
    obtain ⟨K, rfl⟩ : ∃ k, K = k + 1 := ⟨K - 1, by omega⟩
    rw [show ps.drop i = [] by rw [List.drop_eq_nil_iff]; omega, seqL, paronymref02_Sequence.l0, if_neg (by rw [List.length_map]; omega)]
    show some (acc, 0) = some (acc ++ [], 0)
    rw [List.append_nil]
  | j + 1, i, acc, K, hi, ha, hK => by
    obtain ⟨K, rfl⟩ : ∃ k, K = k + 1 := ⟨K - 1, by omega⟩
    have hil : i < ps.length := by omega
    have hw : wrap64 ((i : Int) + 1) = ((i + 1 : Nat) : Int) := by rw [wrap_small _ (by omega) (by omega)]; rfl
    rw [paronymref02_Sequence.l0, if_pos (by rw [List.length_map]; omega), if_pos (by omega), rdOf_map ps i hil, ref_point ps[i] K (by omega), Option.bind_some, List.drop_eq_getElem_cons hil, seqL]
    cases hp : pointS ps[i] with
    | none => rw [if_pos (by show (-1 : Int) < 0; decide)]; rfl
    | some c =>
      have hc : ¬ ((c : Int) < 0) := by omega
      rw [Option.bind_some]
      show (if (c : Int) < 0 then _ else _) = _
      rw [if_neg hc, if_pos (by omega), hw, seq_loop ps hl j (i + 1) (acc ++ [(c : Int)]) K (by omega) (by simp; omega) (by omega)]
      cases seqL (ps.drop (i + 1)) with
      | none => rfl
      | some l => simp
theorem ref_seq (l : List UInt8) (hl : l.length ≤ 1000000) (K : Nat) (hK : l.length + 110 ≤ K) : paronymref02_Sequence.f K (mkB l) = some (seqS l) := by
  unfold paronymref02_Sequence.f seqS
  rw [mkB_list]
  by_cases h : l = []
  · rw [if_pos h, if_pos h]
  · rw [if_neg h, if_neg h, ref_cut l hl K (by omega), Option.bind_some]
    have hc := cutL_len l
    have := seq_loop (cutL l) (by omega) (cutL l).length 0 [] K (by omega) rfl (by omega)
    rw [show ((0 : Nat) : Int) = 0 from rfl, List.drop_zero] at this
    rw [this]
    cases seqL (cutL l) with
    | none => rfl
    | some l => rfl
theorem seqL_len : ∀ (ps : List (List UInt8)) l, seqL ps = some l → l.length = ps.length
  | [], l, h => by simp [seqL] at h; subst h; rfl
  | p :: r, l, h => by
    rw [seqL] at h
    obtain ⟨d, hd, h2⟩ := Option.bind_eq_some_iff.1 h
    obtain ⟨q, hq, rfl⟩ := Option.map_eq_some_iff.1 h2
    rw [List.length_cons, List.length_cons, seqL_len r q hq]
theorem seqS_pos (s : List UInt8) (hs : s ≠ []) (h : (seqS s).2 = 0) : (seqS s).1.length ≠ 0 := by
  unfold seqS at h ⊢
  rw [if_neg hs] at h ⊢
  cases hq : seqL (cutL s) with
  | none => rw [hq] at h; exact absurd h (by decide)
  | some l =>
    have h1 := seqL_len _ _ hq
    have h2 : (cutL s).length ≠ 0 := fun e => cutL_ne s (List.eq_nil_of_length_eq_zero e)
    show l.length ≠ 0
    omega
theorem parse_no (s : List UInt8) (h45 : s ≠ [45]) (h : Lib.hasPrefix s [61] = false ∨ s = [61]) : parseS s = ([], 42) := by
  unfold parseS
  rw [if_neg h45]
  dsimp only
  rcases h with h | h
  · rw [if_pos (.inl h)]
  · subst h
    have h0 : (seqS (Lib.trimPrefix [61] [61])).1.length = 0 := rfl
    rw [if_pos (.inr (.inr (.inl h0)))]
theorem parse_yes (r : List UInt8) (hr : r ≠ []) : parseS (61 :: r) = if (seqS r).2 = 0 then (if 63 < (seqS r).1.length then ([], 42) else ((seqS r).1, 0)) else ([], 42) := by
  unfold parseS
  have hn : ¬ (61 :: r = [45]) := by intro e; injection e with e1 e2; cases e1
  have hp : Lib.hasPrefix (61 :: r) [61] = true := by simp [Lib.hasPrefix]
  have ht : Lib.trimPrefix (61 :: r) [61] = r := by unfold Lib.trimPrefix; rw [hp]; rfl
  rw [if_neg hn]
  dsimp only
  rw [ht, hp]
  by_cases h0 : (seqS r).2 = 0
  · have := seqS_pos r hr h0
    rw [if_pos h0]
    by_cases h6 : 63 < (seqS r).1.length
    · rw [if_pos h6, if_pos (.inr (.inr (.inr h6)))]
    · rw [if_neg h6, if_neg]
      rintro (e | e | e | e)
      · cases e
      · exact e h0
      · exact this e
      · exact h6 e
  · rw [if_neg h0, if_pos (.inr (.inl h0))]
theorem ref_parse (l : List UInt8) (hl : l.length ≤ 1000000) (K : Nat) (hK : l.length + 111 ≤ K) : paronymref21_Parse.f K (mkB l) = some (parseS l) := by
  obtain ⟨K, rfl⟩ : ∃ k, K = k + 1 := ⟨K - 1, by omega⟩
  have hs := mkB_size l
  unfold paronymref21_Parse.f
  rw [mkB_list]
  by_cases h45 : l = [45]
  · subst h45
    rw [if_pos rfl]; rfl
  · rw [if_neg h45]
    match l, h45, hl, hK, hs with
    | [], h45, _, _, hs => rw [if_pos (by rw [hs]; decide), paronymref21_Parse.j0, if_pos rfl, parse_no [] h45 (.inl rfl)]
    | [b], h45, _, _, hs =>
      rw [if_pos (by rw [hs]; simp), paronymref21_Parse.j0, if_pos rfl, parse_no [b] h45]
      by_cases hb : b = 61
      · exact .inr (by rw [hb])
      · refine .inl ?_
        have h9 : ((61 : UInt8) == b) = false := beq_eq_false_iff_ne.2 (fun e => hb e.symm)
        simp [Lib.hasPrefix, List.isPrefixOf, h9]
    | b :: c :: r, h45, hl, hK, hs =>
      have h2 : (2 : Int) ≤ ((mkB (b :: c :: r)).size : Int) := by rw [hs]; simp; omega
      have hbt := bt_mkB (b :: c :: r) 0 (by simp)
      rw [if_neg (by omega), if_pos (by omega)]
      rw [show ((0 : Nat) : Int) = 0 from rfl] at hbt
      rw [hbt]
      show paronymref21_Parse.j0 (K + 1) (mkB (b :: c :: r)) ((b.toNat : Int) != 61) = _
      by_cases hb : b = 61
      · subst hb
        rw [show (((61 : UInt8).toNat : Int) != 61) = false from by decide, paronymref21_Parse.j0, if_neg (by decide), if_pos (by omega), mkB_extract,
          show ((61 :: c :: r : List UInt8).drop 1).take ((mkB (61 :: c :: r)).size - 1) = c :: r by rw [hs]; simp, ref_seq (c :: r) (by simp at hl ⊢; omega) K (by simp at hK ⊢; omega), Option.bind_some, parse_yes (c :: r) (by simp)]
        by_cases h0 : (seqS (c :: r)).2 = 0
        · rw [if_pos h0, if_pos h0]
          by_cases h6 : 63 < (seqS (c :: r)).1.length
          · rw [if_pos (by omega), if_pos h6]
          · rw [if_neg (by omega), if_neg h6]
        · rw [if_neg h0, if_neg h0]
      · have : ((b.toNat : Int) != 61) = true := by
          rw [bne_iff_ne]
          intro e
          exact hb (UInt8.toNat_inj.1 (by show b.toNat = 61; omega))
        rw [this, paronymref21_Parse.j0, if_pos rfl, parse_no _ h45]
        refine .inl ?_
        have h9 : ((61 : UInt8) == b) = false := beq_eq_false_iff_ne.2 (fun e => hb e.symm)
        simp [Lib.hasPrefix, List.isPrefixOf, h9]
theorem joinTail_snoc (sep y : List UInt8) (r : List (List UInt8)) : Lib.joinTail sep (r ++ [y]) = Lib.joinTail sep r ++ (sep ++ y) := by
  simp [Lib.joinTail]
theorem join_snoc (x y : List UInt8) (r : List (List UInt8)) : Lib.join (x :: r ++ [y]) [32] = Lib.join (x :: r) [32] ++ [32] ++ y := by
  rw [List.cons_append, Lib.join_cons, Lib.join_cons, joinTail_snoc]
  simp
theorem join_one (y : List UInt8) : Lib.join [y] [32] = y := by
  rw [Lib.join_cons]; simp [Lib.joinTail]
/-- The first texts, joined. -/
def joinK (l : List Int) (i : Nat) : List UInt8 := Lib.join ((l.take i).map fun c => hexT c.toNat) [32]
theorem joinK_len (l : List Int) (i : Nat) (hi : i ≤ l.length) : (joinK l i).length ≤ i * 13 := by
  have := join_len [32] 12 (by simp) ((l.take i).map fun c => hexT c.toNat) (by
    intro x hx
    rw [List.mem_map] at hx
    obtain ⟨c, _, rfl⟩ := hx
    exact hexT_len _)
  rw [List.length_map, List.length_take, Nat.min_eq_left hi] at this
  exact this
theorem joinK_first (l : List Int) (h : 0 < l.length) : joinK l 1 = hexT (l[0]).toNat := by
  unfold joinK
  cases l with
  | nil => simp at h
  | cons c r => simp [join_one]
theorem joinK_next (l : List Int) (i : Nat) (h0 : 0 < i) (h : i < l.length) : joinK l (i + 1) = joinK l i ++ [32] ++ hexT (l[i]).toNat := by
  unfold joinK
  rw [List.take_succ_eq_append_getElem h, List.map_append]
  cases hq : (l.take i).map (fun c => hexT c.toNat) with
  | nil =>
    have := congrArg List.length hq
    rw [List.length_map, List.length_take, List.length_nil] at this
    omega
  | cons x r => exact join_snoc x _ r
theorem rd_get (l : List Int) (i : Nat) (h : i < l.length) : rd l (i : Int) = l[i] := by
  unfold rd
  rw [Int.toNat_natCast, List.getD_eq_getElem?_getD, List.getElem?_eq_getElem h]; rfl
theorem text_turn (K : Nat) (l : List Int) (i : Nat) (h : i < l.length) (hl : l.length ≤ 1000000) (hK : 50 ≤ K) :
    paronymref02_Text.l0 (K + 2) l (mkB (joinK l i)) i = if badC l[i] then some (mkB []) else paronymref02_Text.l0 K l (mkB (joinK l (i + 1))) ((i + 1 : Nat) : Int) := by
  have hw : wrap64 ((i : Int) + 1) = ((i + 1 : Nat) : Int) := by rw [wrap_small _ (by omega) (by omega)]; rfl
  have hjl := joinK_len l i (by omega)
  have hx := hexT_len (l[i]).toNat
  rw [paronymref02_Text.l0, if_pos (by omega), if_pos (by omega), rd_get l i h]
  by_cases hb : badC l[i] = true
  · rw [if_pos hb]
    simp only [badC, Bool.or_eq_true, decide_eq_true_eq] at hb
    by_cases h0 : l[i] < 0
    · rw [if_pos h0, paronymref02_Text.j1, if_pos rfl]; rfl
    · rw [if_neg h0, decide_eq_true (by omega), paronymref02_Text.j1, if_pos rfl]; rfl
  · rw [if_neg hb]
    simp only [badC, Bool.or_eq_true, decide_eq_true_eq] at hb
    obtain ⟨n, hn⟩ : ∃ n : Nat, l[i] = (n : Int) := ⟨(l[i]).toNat, by omega⟩
    have hn2 : n ≤ 1114111 := by omega
    have h6 : n < 16 ^ 6 := by omega
    have hnn : (l[i]).toNat = n := by rw [hn]; rfl
    rw [hnn] at hx
    rw [if_neg (by omega), decide_eq_false (by omega), paronymref02_Text.j1, if_neg (by decide)]
    by_cases hi : i = 0
    · subst hi
      rw [if_neg (by decide), if_pos (by decide), if_pos (by omega), rd_get l 0 h, hn, ref_hex n h6 K (by omega), Option.bind_some, if_pos (by rw [mkB_size, mkB_size]; omega), mkB_append, hw, joinK_first l (by omega), hnn]
      rfl
    · rw [if_pos (by omega), if_pos (by rw [mkB_size]; omega), if_pos (by omega), if_pos (by omega), rd_get l i h, hn, ref_hex n h6 K (by omega), Option.bind_some]
      have e32 : (⟨#[32]⟩ : ByteArray) = mkB [32] := rfl
      rw [e32, mkB_append, if_pos (by rw [mkB_size, mkB_size]; simp; omega), mkB_append, hw, joinK_next l i (by omega) h, hnn]
theorem text_loop (l : List Int) (hl : l.length ≤ 1000000) : ∀ (j i K : Nat), i + j = l.length → (l.take i).any badC = false → 2 * j + 51 ≤ K →
    paronymref02_Text.l0 K l (mkB (joinK l i)) i = some (mkB (textS l))
  | 0, i, K, hi, hg, hK => by
    obtain ⟨K, rfl⟩ : ∃ k, K = k + 1 := ⟨K - 1, by omega⟩
    have ht : l.take i = l := List.take_of_length_le (by omega)
    rw [paronymref02_Text.l0, if_neg (by omega)]
    unfold textS joinK
    rw [ht] at hg ⊢
    rw [hg]; rfl
  | j + 1, i, K, hi, hg, hK => by
    obtain ⟨K, rfl⟩ : ∃ k, K = k + 2 := ⟨K - 2, by omega⟩
    have hil : i < l.length := by omega
    rw [text_turn K l i hil hl (by omega)]
    by_cases hb : badC l[i] = true
    · rw [if_pos hb]
      have : l.any badC = true := List.any_eq_true.2 ⟨l[i], List.getElem_mem hil, hb⟩
      unfold textS
      rw [this]; rfl
    · rw [if_neg hb]
      refine text_loop l hl j (i + 1) K (by omega) ?_ (by omega)
      rw [List.take_succ_eq_append_getElem hil, List.any_append, hg]
      simp [hb]
theorem ref_text (l : List Int) (hl : l.length ≤ 1000000) (K : Nat) (hK : 2 * l.length + 51 ≤ K) : paronymref02_Text.f K l = some (mkB (textS l)) :=
  text_loop l hl l.length 0 K (by omega) rfl hK
theorem textS_len2 (l : List Int) : (textS l).length ≤ l.length * 13 := by
  unfold textS
  cases l.any badC
  · have := joinK_len l l.length (Nat.le_refl _)
    unfold joinK at this
    rw [List.take_length] at this
    exact this
  · simp
theorem ref_cursor (l : List Int) (hl : l.length ≤ 1000000) (K : Nat) (hK : 2 * l.length + 51 ≤ K) : paronymref21_Cursor.f K l = some (mkB (cursorS l)) := by
  have hx := textS_len2 l
  unfold paronymref21_Cursor.f cursorS
  rw [ref_text l hl K hK, Option.bind_some, mkB_list]
  by_cases h : textS l = []
  · rw [if_pos h, if_pos h]; rfl
  · rw [if_neg h, if_neg h, if_pos (by rw [mkB_size]; omega)]
    have e61 : (⟨#[61]⟩ : ByteArray) = mkB [61] := rfl
    rw [e61, mkB_append]
    rfl
theorem cmp_loop (q : List Int) (hl : q.length ≤ 1000000) : ∀ (j i K : Nat), i + j = q.length → 2 * j + 2 ≤ K → paronymref01_Compare.l0 K q q i = some 0
  | 0, i, K, hi, hK => by
    obtain ⟨K, rfl⟩ : ∃ k, K = k + 2 := ⟨K - 2, by omega⟩
    rw [paronymref01_Compare.l0, if_neg (by omega), paronymref01_Compare.j1, if_neg (by decide), if_neg (by omega), if_neg (by omega)]
  | j + 1, i, K, hi, hK => by
    obtain ⟨K, rfl⟩ : ∃ k, K = k + 2 := ⟨K - 2, by omega⟩
    have hw : wrap64 ((i : Int) + 1) = ((i + 1 : Nat) : Int) := by rw [wrap_small _ (by omega) (by omega)]; rfl
    rw [paronymref01_Compare.l0, if_pos (by omega), decide_eq_true (by omega), paronymref01_Compare.j1, if_pos rfl, if_pos (by omega), if_pos (by omega), if_pos (by omega), if_neg (by omega), if_neg (by omega), hw]
    exact cmp_loop q hl j (i + 1) K (by omega) (by omega)
theorem ref_same (q : List Int) (hl : q.length ≤ 1000000) (K : Nat) (hK : 2 * q.length + 2 ≤ K) : paronymref01_Same.f K q q = some true := by
  unfold paronymref01_Same.f paronymref01_Compare.f
  have := cmp_loop q hl q.length 0 K (by omega) hK
  rw [show ((0 : Nat) : Int) = 0 from rfl] at this
  rw [this]; rfl
/-- All that the law's walk asks of the document's functions. -/
theorem facts_hold (l : List Int) (s : ByteArray) (h1 : l.length ≤ 100) (h2 : s.size ≤ 600) : Facts l s := by
  refine ⟨⟨s.size + 111, ?_⟩, ⟨2 * l.length + 51, ref_cursor l (by omega) _ (Nat.le_refl _)⟩, fun q hq => ⟨_, ref_same q hq _ (Nat.le_refl _)⟩, back_law l⟩
  have hs : s.data.toList.length = s.size := by simp
  have := ref_parse s.data.toList (by omega) (s.size + 111) (by omega)
  rw [mkB_data] at this
  exact this
end Go.Proofs.YtgfmplhpoblleaaDoor.FieldW
