/- field: a number's hexadecimal digits (strconv.FormatInt at base 16). -/
import Derived.Test.YtgfmplhpoblleaaDoorShelf
import Derived.Test.YtgfmplhpoblleaaDoorWMore
import Derived.Lib.SlBytesRow
import Derived.Laws.Bits64b
import Derived.Lib.Walk
import Derived.WalkKit
namespace Go.Proofs.YtgfmplhpoblleaaDoor.FieldW
open Go.RowKit Go.Shelf Go.Lib Go.Proofs Go.Proofs.YtgfmplhpoblleaaDoorW.PrintWords Go.Proofs.YtgfmplhpoblleaaDoorW.PrintLast Go.Proofs.YtgfmplhpoblleaaDoorW.PrintMore
set_option linter.unusedVariables false
set_option linter.unusedSimpArgs false

/-- A digit's octet, in small letters. -/
def hexD (d : Nat) : UInt8 := if d < 10 then (48 + d).toUInt8 else (87 + d).toUInt8
def hexF : Nat → Nat → List UInt8
  | 0, _ => []
  | k + 1, u => if u < 16 then [hexD u] else hexF k (u / 16) ++ [hexD (u % 16)]
theorem cell_grows9 {w : World} {o : Obj} {a : Addr} {v : Value} (h : w.cell? a = some v) : (w.alloc o).cell? a = some v := ((below_alloc (Go.RowKit.Below.refl w.heap.size w) o).cell (World.block_lt_of_cell? w a h)).trans h
set_option maxRecDepth 100000 in
theorem pow16 (w : World) : Calls Tryd.prog 70 #[.int .i64 16] w fun e w' => e = .returned (.bool true) ∧ w' = w := by
  go_enter Tryd.func70, Tryd.ntmps70
  go_wp2
  go_ret
  exact ⟨by first | rfl | simp, rfl⟩
set_option maxRecDepth 100000 in
theorem tz16 (w : World) (hz : w.cell? ⟨6, 15, none⟩ = some (.int .u8 4)) : Calls Tryd.prog 71 #[.int .u64 16] w fun e w' => e = .returned (.int .i64 4) ∧ w' = w := by
  have h1 : bits BinOp.and IntKind.u64 16 (IntKind.u64.wrap (-16)) = 16 := by kernel_rfl
  have h2 : IntKind.u64.wrap (16 * 285870213051353865) = 4573923408821661840 := by kernel_rfl
  go_enter Tryd.func71, Tryd.ntmps71
  go_wp2
  go_ret
  exact ⟨by first | rfl | simp, rfl⟩
/-- The digits that have been written, from the array's end on. -/
def HexAt (w : World) (B : Nat) (ds : List UInt8) : Prop := ∃ arr : Array Value, w.heap[B]? = some (.cells arr 100 (0, 0)) ∧ arr.size = 65 ∧ ds.length ≤ 65 ∧ ∀ j x, ds[j]? = some x → arr[65 - ds.length + j]? = some (.int .u8 (x.toNat : Int))
theorem HexAt.push {w : World} {B : Nat} {ds : List UInt8} (h : HexAt w B ds) (hl : ds.length < 65) (x : UInt8) : HexAt (w.setCell ⟨B, 64 - ds.length, none⟩ (.int .u8 (x.toNat : Int))) B (x :: ds) := by
  obtain ⟨arr, h1, h2, h3, h4⟩ := h
  refine ⟨_, blk_set h1 _ _, by simp [h2], by simp; omega, fun j y hj => ?_⟩
  rw [List.length_cons]
  rcases j with _ | j
  · simp at hj; subst hj
    rw [Nat.add_zero, show 65 - (ds.length + 1) = 64 - ds.length by omega]
    rw [Array.getElem?_setIfInBounds_self_of_lt (by omega)]
  · have := h4 j y (by simpa using hj)
    rw [Array.getElem?_setIfInBounds_ne (by omega), show 65 - (ds.length + 1) + (j + 1) = 65 - ds.length + j by omega]
    exact this
theorem HexAt.cell {w : World} {B : Nat} {ds : List UInt8} (h : HexAt w B ds) (i : Nat) (hi : i < 65) : ∃ v, w.cell? ⟨B, i, none⟩ = some v := by
  obtain ⟨arr, h1, h2, h3, h4⟩ := h
  rw [blk_cell h1, Array.getElem?_eq_getElem (by omega)]
  exact ⟨_, rfl⟩
theorem HexAt.fz {w : World} {B : Nat} {ds : List UInt8} (h : HexAt w B ds) (i : Nat) : w.frozen? ⟨B, i, none⟩ = false := by
  obtain ⟨arr, h1, h2, h3, h4⟩ := h
  exact blk_frozen h1 i
abbrev digS : ByteArray := ⟨#[48, 49, 50, 51, 52, 53, 54, 55, 56, 57, 97, 98, 99, 100, 101, 102, 103, 104, 105, 106, 107, 108, 109, 110, 111, 112, 113, 114, 115, 116, 117, 118, 119, 120, 121, 122]⟩
theorem dig_eq (k : Nat) (h : k < 16) (h2 : k < digS.size) : digS[k] = hexD k := by
  have : k = 0 ∨ k = 1 ∨ k = 2 ∨ k = 3 ∨ k = 4 ∨ k = 5 ∨ k = 6 ∨ k = 7 ∨ k = 8 ∨ k = 9 ∨ k = 10 ∨ k = 11 ∨ k = 12 ∨ k = 13 ∨ k = 14 ∨ k = 15 := by omega
  rcases this with rfl | rfl | rfl | rfl | rfl | rfl | rfl | rfl | rfl | rfl | rfl | rfl | rfl | rfl | rfl | rfl <;> rfl
theorem hexF_step (k u : Nat) (h : 16 ≤ u) : hexF (k + 1) u = hexF k (u / 16) ++ [hexD (u % 16)] := by rw [hexF, if_neg (by omega)]
set_option maxHeartbeats 4000000 in
set_option maxRecDepth 100000 in
theorem bits_calls (n : Nat) (hn : n < 16 ^ 6) (w : World) (hz : w.cell? ⟨6, 15, none⟩ = some (.int .u8 4)) :
    Calls Tryd.prog 57 #[.slice none 0 0, .int .u64 n, .int .i64 16, .bool false, .bool false] w fun e w' => e = .returned (.tuple #[.slice none 0 0, .string ⟨(hexF 8 n).toArray⟩]) ∧ Go.RowKit.Below w.heap.size w w' := by
  have HZ := Aside0.mk hz
  clear hz
  go_enter Tryd.func57, Tryd.ntmps57
  go_wp2_with (first | (go_at_call 70; refine (pow16 _).mono ?_; rintro e w2 ⟨rfl, rfl⟩) | (go_at_call 71; refine (tz16 _ (cell_grows9 HZ.out)).mono ?_; rintro e w2 ⟨rfl, rfl⟩))
  have hz0 : HexAt (w.alloc (.cells Tryd.zeroCells100 100)) w.heap.size [] := ⟨_, heap_alloc_new _ _, by kernel_rfl, by simp, fun j x hj => by simp at hj⟩
  have hb0 : Go.RowKit.Below w.heap.size w (w.alloc (.cells Tryd.zeroCells100 100)) := below_alloc (Go.RowKit.Below.refl _ _) _
  obtain ⟨W0, hW0⟩ : ∃ W0, W0 = w.alloc (.cells Tryd.zeroCells100 100) := ⟨_, rfl⟩
  rw [← hW0] at hz0 hb0
  rw [← hW0]
  have H0 := Aside0.mk (And.intro hz0 hb0)
  clear hz0 hb0 hW0
  go_loopw [1, 13] (fun uv iv wr => ∃ (u : Nat) (ds : List UInt8), uv = .int .u64 u ∧ iv = .int .i64 ((65 - ds.length : Nat) : Int) ∧ ds.length ≤ 5 ∧ u < 16 ^ (6 - ds.length) ∧ hexF 8 n = hexF (8 - ds.length) u ++ ds ∧ HexAt wr w.heap.size ds ∧ Go.RowKit.Below w.heap.size w wr) (fun uv iv wr => (RowKit.intOf uv).toNat)
  case atStart => exact ⟨n, [], rfl, rfl, by simp, hn, by simp, H0.out.1, H0.out.2⟩
  case round =>
    obtain ⟨u, ds, rfl, rfl, hd, hu, he, hh, hb⟩ := hrel
    have hub : u < 16 ^ 6 := Nat.lt_of_lt_of_le hu (Nat.pow_le_pow_right (by omega) (by omega))
    obtain ⟨i, hi⟩ : ∃ i, i = 64 - ds.length := ⟨_, rfl⟩
    have hi1 : ((65 - ds.length : Nat) : Int) = (i : Int) + 1 := by omega
    have hi2 : i < 65 := by omega
    have hfz := hh.fz i
    obtain ⟨cv, hcv⟩ := hh.cell i hi2
    by_cases hlt : 16 ≤ u
    · have hul : (16 : Int) ≤ (u : Int) := by omega
      have hand : bits BinOp.and IntKind.u64 (u : Int) 15 = ((u % 16 : Nat) : Int) := by
        have h1 := bits_and_u64_nat u 15 (by omega) (by omega)
        rw [Nat.and_two_pow_sub_one_eq_mod u 4] at h1
        exact h1
      have HH := Aside0.mk (And.intro hd (And.intro hu (And.intro he (And.intro hh (And.intro hb hi)))))
      rw [hi1]
      clear hd hu he hh hb hi hi1
      go_wp2
      obtain ⟨hd, hu, he, hh, hb, hi⟩ := HH.out
      have hds : ds.length ≤ 4 := by
        rcases Nat.lt_or_ge ds.length 5 with h | h
        · omega
        · have : ds.length = 5 := by omega
          rw [this] at hu
          omega
      refine ⟨⟨u / 16, hexD (u % 16) :: ds, by go_num, ?_, by simp; omega, ?_, ?_, ?_, ?_⟩, ?_⟩
      · rw [hi, List.length_cons]; congr 2; omega
      · rw [List.length_cons]
        have e1 : 6 - ds.length = (6 - (ds.length + 1)) + 1 := by omega
        rw [e1, Nat.pow_succ] at hu
        omega
      · rw [he, List.length_cons, show 8 - ds.length = (8 - (ds.length + 1)) + 1 by omega, hexF_step _ _ hlt, List.append_assoc]; rfl
      · have h1 := hh.push (by omega) (hexD (u % 16))
        have h2 : HexAt (wr.setCell ⟨w.heap.size, 64 - ds.length, none⟩ (.int .u8 ((digS[u % 16]'(by show u % 16 < 36; omega)).toNat : Int))) w.heap.size (hexD (u % 16) :: ds) := by rw [dig_eq (u % 16) (by omega)]; exact h1
        rw [hi]
        exact h2
      · exact hb.setCell (p := ⟨w.heap.size, i, none⟩) (Nat.le_refl _) _
      · simp only [RowKit.intOf]; omega
    · have hul : ¬ ((16 : Int) ≤ (u : Int)) := by omega
      have hu16 : u < 16 := by omega
      have hB1 : HexAt (wr.setCell ⟨w.heap.size, i, none⟩ (.int .u8 ((hexD u).toNat : Int))) w.heap.size (hexD u :: ds) := by rw [hi]; exact hh.push (by omega) (hexD u)
      have hstr : hexF 8 n = hexD u :: ds := by
        rw [he, show 8 - ds.length = (7 - ds.length) + 1 by omega, hexF, if_pos hu16]; rfl
      have hal : Tryd.prog.arrayLen 100 = 65 := by kernel_rfl
      have hsl : ∀ W, (Instr.sliceAt 100 (.pointer (some ⟨w.heap.size, 0, none⟩)) (some (.int .i64 (i : Int))) none none).run Tryd.prog W = .ok (.slice (some ⟨w.heap.size, i, none⟩) (65 - i) (65 - i)) W := fun W => by
        have hu100 := Tryd.underlying100
        rw [run_sliceAt_array_l (t := 100) (a := ⟨w.heap.size, 0, none⟩) (w := W) (by simp [Program.arrayLen, Program.elem, hu100]) .i64 (i : Int) (by omega) (by rw [hal]; omega), hal]
        go_simp
        omega
      have hcv2 : (convert 53 9 (.slice (some ⟨w.heap.size, i, none⟩) (65 - i) (65 - i))).run Tryd.prog (wr.setCell ⟨w.heap.size, i, none⟩ (.int .u8 ((digS[u]'(by show u < 36; omega)).toNat : Int))) = .ok (.string ⟨(hexF 8 n).toArray⟩) (wr.setCell ⟨w.heap.size, i, none⟩ (.int .u8 ((digS[u]'(by show u < 36; omega)).toNat : Int))) := by
        rw [dig_eq u hu16, hstr]
        obtain ⟨arr, k1, k2, k3, k4⟩ := hB1
        have hsz : (⟨(hexD u :: ds).toArray⟩ : ByteArray).size = 65 - i := by
          show (hexD u :: ds).toArray.size = 65 - i
          simp; omega
        have hby : Bytes (wr.setCell ⟨w.heap.size, i, none⟩ (.int .u8 ((hexD u).toNat : Int))) w.heap.size i ⟨(hexD u :: ds).toArray⟩ := by
          intro j hj
          have hj2 : j < (hexD u :: ds).length := by have : (⟨(hexD u :: ds).toArray⟩ : ByteArray).size = (hexD u :: ds).length := by show (hexD u :: ds).toArray.size = _; simp
                                                     omega
          have h1 := k4 j _ (List.getElem?_eq_getElem hj2)
          rw [blk_cell k1, show i + j = 65 - (hexD u :: ds).length + j by rw [List.length_cons]; omega, h1]
          rfl
        have h := run_convert_whole (P := Tryd.prog) _ 53 5 9 Tryd.underlying53 Tryd.underlying5 Tryd.underlying9 _ _ _ hby (65 - i)
        rw [hsz] at h
        exact h
      have HH := Aside0.mk (And.intro hd (And.intro hu (And.intro he (And.intro hh (And.intro hb hi)))))
      rw [hi1]
      clear hd hu he hh hb hi hi1
      go_wp2
      go_ret2
      exact ⟨by rw [hstr]; rfl, HH.out.2.2.2.2.1.setCell (p := ⟨w.heap.size, i, none⟩) (Nat.le_refl _) _⟩
set_option maxRecDepth 100000 in
theorem fmt40 (n : Nat) (hn : n < 16 ^ 6) (w : World) (hz : w.cell? ⟨6, 15, none⟩ = some (.int .u8 4)) :
    Calls Tryd.prog 40 #[.int .i64 n, .int .i64 16] w fun e w' => e = .returned (.string ⟨(hexF 8 n).toArray⟩) ∧ Go.RowKit.Below w.heap.size w w' := by
  have H := Aside0.mk (bits_calls n hn w hz)
  clear hz
  go_enter Tryd.func40, Tryd.ntmps40
  go_wp2_with (go_at_call 57; refine H.out.mono ?_; rintro e w2 ⟨rfl, hb⟩; have HB := Aside0.mk hb; clear hb)
  go_ret
  exact ⟨rfl, HB.out⟩
set_option maxRecDepth 100000 in
theorem fmt_calls (n : Nat) (hn : n < 16 ^ 6) (w : World) (hz : w.cell? ⟨6, 15, none⟩ = some (.int .u8 4)) :
    Calls Tryd.prog 29 #[.int .i64 n, .int .i64 16] w fun e w' => e = .returned (.string ⟨(hexF 8 n).toArray⟩) ∧ Go.RowKit.Below w.heap.size w w' := by
  have H := Aside0.mk (fmt40 n hn w hz)
  clear hz
  go_enter Tryd.func29, Tryd.ntmps29
  go_wp2_with (go_at_call 40; refine H.out.mono ?_; rintro e w2 ⟨rfl, hb⟩; have HB := Aside0.mk hb; clear hb)
  go_ret
  exact ⟨rfl, HB.out⟩
end Go.Proofs.YtgfmplhpoblleaaDoor.FieldW
