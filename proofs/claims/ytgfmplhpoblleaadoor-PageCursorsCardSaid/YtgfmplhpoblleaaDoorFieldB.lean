/- field: a code point's text. -/
import Derived.Test.YtgfmplhpoblleaaDoorFieldA
import Derived.Shelf.Strings.OnBuilder
import Derived.Shelf.Strings.Repeat
namespace Go.Proofs.YtgfmplhpoblleaaDoor.FieldW
open Go.RowKit Go.Shelf Go.Lib Go.Proofs Go.Proofs.YtgfmplhpoblleaaDoorW.PrintWords Go.Proofs.YtgfmplhpoblleaaDoorW.PrintLast Go.Proofs.YtgfmplhpoblleaaDoorW.PrintMore
set_option linter.unusedVariables false
set_option linter.unusedSimpArgs false
attribute [local go_sem] max2_int min2_int max_two min_two

theorem Tryd.xU : Builder.Extra Tryd.prog Tryd.toUpperL_ren where
  sizeBuilder := by kernel_rfl
  liesBuilder := by kernel_rfl
  t5 := Tryd.underlying5
  a5 := Tryd.isAgg5
  z5 := Tryd.sizeOf5
  v5 := Tryd.zeroValue5
  infoByte := by kernel_rfl
  cellsByte := by kernel_rfl
  sizeByte := by kernel_rfl
  neB5 := by decide
theorem Tryd.xR : Builder.Extra Tryd.prog Tryd.repeatL_ren where
  sizeBuilder := by kernel_rfl
  liesBuilder := by kernel_rfl
  t5 := Tryd.underlying5
  a5 := Tryd.isAgg5
  z5 := Tryd.sizeOf5
  v5 := Tryd.zeroValue5
  infoByte := by kernel_rfl
  cellsByte := by kernel_rfl
  sizeByte := by kernel_rfl
  neB5 := by decide
theorem hexD_lt (d : Nat) (h : d < 16) : (hexD d).toNat < 128 := by
  have key : ∀ d : Fin 16, (hexD d.1).toNat < 128 := by decide
  exact key ⟨d, h⟩
theorem hexF_ascii : ∀ (k u : Nat), ∀ b ∈ hexF k u, b.toNat < 128
  | 0, u, b, h => by simp [hexF] at h
  | k + 1, u, b, h => by
    rw [hexF] at h
    split at h
    · rw [List.mem_singleton] at h; subst h; exact hexD_lt _ (by omega)
    · rw [List.mem_append, List.mem_singleton] at h
      rcases h with h | h
      · exact hexF_ascii k _ b h
      · subst h; exact hexD_lt _ (by omega)
theorem hexF_len : ∀ (k u : Nat), (hexF k u).length ≤ k
  | 0, u => by simp [hexF]
  | k + 1, u => by
    rw [hexF]; split
    · simp
    · have := hexF_len k (u / 16)
      rw [List.length_append]; simp; omega
theorem one_size : (⟨#[48]⟩ : ByteArray).size = 1 := rfl
theorem rep_size (m : Nat) : (⟨(Lib.repeatL (⟨#[48]⟩ : ByteArray).data.toList m).toArray⟩ : ByteArray).size = m := by
  show (Lib.repeatL (⟨#[48]⟩ : ByteArray).data.toList m).toArray.size = m
  rw [List.size_toArray, Lib.repeatL_length]
  exact Nat.mul_one m
/-- A code point's text: capitals, four digits at the least. -/
def hexT (n : Nat) : List UInt8 := Lib.repeatL [48] (4 - (hexF 8 n).length) ++ Lib.toUpperA (hexF 8 n)
set_option maxHeartbeats 2000000 in
set_option maxRecDepth 100000 in
theorem text_calls (n : Nat) (hn : n < 16 ^ 6) (w : World) (hz : w.cell? ⟨6, 15, none⟩ = some (.int .u8 4)) :
    Calls Tryd.prog 19 #[.int .i64 n] w fun e w' => e = .returned (.string ⟨(hexT n).toArray⟩) ∧ Go.RowKit.Below w.heap.size w w' := by
  have H := Aside0.mk (fmt_calls n hn w hz)
  clear hz
  have hl := hexF_len 8 n
  obtain ⟨s, hs⟩ : ∃ s : ByteArray, s = ⟨(hexF 8 n).toArray⟩ := ⟨_, rfl⟩
  have hsd : s.data.toList = hexF 8 n := by rw [hs]
  have hsz : s.size ≤ 8 := by rw [hs]; show (hexF 8 n).toArray.size ≤ 8; simpa using hl
  obtain ⟨U, hU⟩ : ∃ U : ByteArray, U = ⟨(Lib.toUpperA s.data.toList).toArray⟩ := ⟨_, rfl⟩
  have hUsz : U.size = (hexF 8 n).length := by rw [hU, hsd]; show (Lib.toUpperA (hexF 8 n)).toArray.size = _; simp [Lib.toUpperA]
  have hup := fun W => Any.strings_ToUpper_ascii Tryd.toUpperL Tryd.xU s W (by omega) (fun j b hb => by rw [hsd] at hb; exact hexF_ascii 8 n b (List.mem_of_getElem? hb))
  obtain ⟨m, hm⟩ : ∃ m, m = 4 - (hexF 8 n).length := ⟨_, rfl⟩
  have hrp := fun W => Any.strings_Repeat Tryd.repeatL Tryd.xR ⟨#[48]⟩ m W (by omega) (by rw [one_size]; omega)
  obtain ⟨Z, hZ⟩ : ∃ Z : ByteArray, Z = ⟨(Lib.repeatL (⟨#[48]⟩ : ByteArray).data.toList m).toArray⟩ := ⟨_, rfl⟩
  rw [← hs] at H
  rw [← hU] at hup
  rw [← hZ] at hrp
  have hup2 : ∀ W : World, Calls Tryd.prog 28 #[.string s] W fun e w' => e = .returned (.string U) ∧ Go.RowKit.Below W.heap.size W w' := hup
  have hrp2 : ∀ (W : World) (a : Int), a = (m : Int) → Calls Tryd.prog 30 #[.string ⟨#[48]⟩, .int .i64 a] W fun e w' => e = .returned (.string Z) ∧ Go.RowKit.Below W.heap.size W w' := fun W a ha => by subst ha; exact hrp W
  have HUP := Aside0.mk (And.intro hup2 hrp2)
  clear hup2 hrp2
  have hfin : Z ++ U = ⟨(hexT n).toArray⟩ := by
    apply ByteArray.ext
    apply Array.toList_inj.1
    rw [ByteArray.data_append, Array.toList_append, hZ, hU, hsd, hm]
    unfold hexT
    simp
  have hZs : Z.size = m := by rw [hZ]; exact rep_size m
  obtain ⟨k, hk⟩ : ∃ k, k = (hexF 8 n).length := ⟨_, rfl⟩
  rw [← hk] at hUsz hm hl
  have hcat : Z.size + U.size ≤ 9223372036854775807 := by rw [hZs, hUsz]; omega
  have HF := Aside0.mk (And.intro hfin (And.intro hm hl))
  clear hs hsd hU hup hrp hZ hfin hk hm hZs
  by_cases hk4 : k < 4
  · have hk4i : (k : Int) < 4 := by omega
    go_enter Tryd.func19, Tryd.ntmps19
    go_wp2_with (first
      | (go_at_call 29; refine H.out.mono ?_; rintro e w2 ⟨rfl, hb⟩; have HB := Aside0.mk hb; clear hb)
      | (go_at_call 28; refine (HUP.out.1 w2).mono ?_; rintro e w3 ⟨rfl, hb⟩; have n_ := Aside0.mk (below_step HB.out hb); clear HB; have HB := n_; clear n_ hb)
      | (go_at_call 30; refine (HUP.out.2 w3 _ (by have h1 := HF.out.2.1; have h2 := HF.out.2.2; omega)).mono ?_; rintro e w4 ⟨rfl, hb⟩; have n_ := Aside0.mk (below_step HB.out hb); clear HB; have HB := n_; clear n_ hb))
    go_ret
    exact ⟨by rw [← HF.out.1]; rfl, HB.out⟩
  · have hk4i : ¬ ((k : Int) < 4) := by omega
    go_enter Tryd.func19, Tryd.ntmps19
    go_wp2_with (first
      | (go_at_call 29; refine H.out.mono ?_; rintro e w2 ⟨rfl, hb⟩; have HB := Aside0.mk hb; clear hb)
      | (go_at_call 28; refine (HUP.out.1 w2).mono ?_; rintro e w3 ⟨rfl, hb⟩; have n_ := Aside0.mk (below_step HB.out hb); clear HB; have HB := n_; clear n_ hb)
      | (go_at_call 30; refine (HUP.out.2 w3 _ (by have h1 := HF.out.2.1; have h2 := HF.out.2.2; omega)).mono ?_; rintro e w4 ⟨rfl, hb⟩; have n_ := Aside0.mk (below_step HB.out hb); clear HB; have HB := n_; clear n_ hb))
    go_ret
    exact ⟨by rw [← HF.out.1]; rfl, HB.out⟩
end Go.Proofs.YtgfmplhpoblleaaDoor.FieldW
