/- field: the code point of a text. -/
import Derived.Test.YtgfmplhpoblleaaDoorFieldB
import Derived.Shelf.Small.Strs
namespace Go.Proofs.YtgfmplhpoblleaaDoor.FieldW
open Go.RowKit Go.Shelf Go.Lib Go.Proofs Go.Proofs.YtgfmplhpoblleaaDoorW.PrintWords Go.Proofs.YtgfmplhpoblleaaDoorW.PrintLast Go.Proofs.YtgfmplhpoblleaaDoorW.PrintMore
set_option linter.unusedVariables false
set_option linter.unusedSimpArgs false

/-- The digits in capitals. -/
abbrev capS : ByteArray := ⟨#[48, 49, 50, 51, 52, 53, 54, 55, 56, 57, 65, 66, 67, 68, 69, 70]⟩
def digV (b : UInt8) : Int := Lib.indexByte capS.data.toList b
theorem indexByte_le : ∀ (l : List UInt8) (c : UInt8), -1 ≤ Lib.indexByte l c ∧ Lib.indexByte l c < l.length
  | [], c => by simp [Lib.indexByte]
  | b :: l, c => by
    have h := indexByte_le l c
    rw [Lib.indexByte, List.length_cons]
    split
    · omega
    · split
      · omega
      · omega
theorem digV_lt (b : UInt8) : -1 ≤ digV b ∧ digV b < 16 := indexByte_le capS.data.toList b
/-- The number that capitals spell, behind one that has been read. -/
def valF : List UInt8 → Nat → Option Nat
  | [], c => some c
  | b :: r, c => if digV b < 0 then none else valF r (c * 16 + (digV b).toNat)
/-- The code point of a text. -/
def pointS (s : List UInt8) : Option Nat := if s.length < 4 ∨ 6 < s.length then none else (valF s 0).bind fun c => if 1114111 < c then none else if hexT c = s then some c else none
theorem toList_inj9 {a b : ByteArray} (h : a.toList = b.toList) : a = b := by
  rw [ByteArray.toList_eq, ByteArray.toList_eq] at h
  exact ByteArray.ext (Array.toList_inj.1 h)
theorem or16_nat (c d : Nat) (hd : d < 16) : (c * 16) ||| d = c * 16 + d := by
  have h := Nat.shiftLeft_add_eq_or_of_lt (i := 4) (b := d) (by omega) c
  rw [Nat.shiftLeft_eq] at h
  exact h.symm
theorem or16 (c d : Nat) (hc : c < 16 ^ 6) (hd : d < 16) : bits BinOp.or IntKind.i64 ((c : Int) * 16) (d : Int) = ((c * 16 + d : Nat) : Int) := by
  have e : ((c : Int) * 16) = ((c * 16 : Nat) : Int) := by omega
  rw [e]
  have h1 : (BitVec.ofInt 64 ((c * 16 : Nat) : Int)).toNat = c * 16 := by
    rw [BitVec.ofInt_natCast, BitVec.toNat_ofNat]; exact Nat.mod_eq_of_lt (by omega)
  have h2 : (BitVec.ofInt 64 (d : Int)).toNat = d := by
    rw [BitVec.ofInt_natCast, BitVec.toNat_ofNat]; exact Nat.mod_eq_of_lt (by omega)
  show IntKind.i64.wrap ((BitVec.ofInt 64 ((c * 16 : Nat) : Int) ||| BitVec.ofInt 64 (d : Int)).toNat : Int) = _
  rw [BitVec.toNat_or, h1, h2, or16_nat c d hd]
  exact IntWalk.i64_in _ (by omega)
set_option maxHeartbeats 2000000 in
set_option maxRecDepth 100000 in
theorem point_calls (s : ByteArray) (w : World) (hz : w.cell? ⟨6, 15, none⟩ = some (.int .u8 4)) (r : Int × Int) (hr : r = match pointS s.data.toList with | none => (0, 13) | some c => ((c : Int), 0)) :
    Calls Tryd.prog 23 #[.string s] w fun e w' => e = .returned (.tuple #[.int .i64 r.1, .int .i64 r.2]) ∧ Go.RowKit.Below w.heap.size w w' := by
  have HZ := Aside0.mk hz
  clear hz
  have HSZ := Aside0.mk (show s.size = s.data.toList.length by simp)
  by_cases h4 : s.size < 4
  · have h4i : (s.size : Int) < 4 := by omega
    have hp : pointS s.data.toList = none := by have hsz := HSZ.out; unfold pointS; rw [if_pos (by omega)]
    rw [hp] at hr
    subst hr
    go_enter Tryd.func23, Tryd.ntmps23
    go_wp2
    go_ret2
    exact ⟨rfl, Go.RowKit.Below.refl _ _⟩
  have h4i : ¬ ((s.size : Int) < 4) := by omega
  by_cases h6 : 6 < s.size
  · have h6i : (6 : Int) < (s.size : Int) := by omega
    have hp : pointS s.data.toList = none := by have hsz := HSZ.out; unfold pointS; rw [if_pos (by omega)]
    rw [hp] at hr
    subst hr
    go_enter Tryd.func23, Tryd.ntmps23
    go_wp2
    go_ret2
    exact ⟨rfl, Go.RowKit.Below.refl _ _⟩
  have h6i : ¬ ((6 : Int) < (s.size : Int)) := by omega
  have hix : ∀ (b : UInt8) (W : World), Calls Tryd.prog 36 #[.string capS, .int .u8 (b.toNat : Int)] W fun e w' => e = .returned (.int .i64 (digV b)) ∧ w' = W := fun b W => by
    have h := Any.strings_IndexByte Tryd.indexByteL capS (b.toNat : Int) W
    have e : ((b.toNat : Int).toNat.toUInt8) = b := by simp
    rw [e] at h
    exact h
  have HI := Aside0.mk hix
  have HR := Aside0.mk hr
  clear hix hr
  go_enter Tryd.func23, Tryd.ntmps23
  go_wp2
  go_loopw [4, 17] (fun cv iv wr => ∃ (i c : Nat), cv = .int .i64 c ∧ iv = .int .i64 i ∧ i ≤ s.size ∧ c < 16 ^ i ∧ valF s.data.toList 0 = valF (s.data.toList.drop i) c ∧ Go.RowKit.Below w.heap.size w wr) (fun cv iv wr => s.size - (RowKit.intOf iv).toNat)
  case atStart => exact ⟨0, 0, rfl, rfl, Nat.zero_le _, by simp, rfl, Go.RowKit.Below.refl _ _⟩
  case round =>
    obtain ⟨i, c, rfl, rfl, hi, hc, hv, hb⟩ := hrel
    have hc6 : c < 16 ^ 6 := Nat.lt_of_lt_of_le hc (Nat.pow_le_pow_right (by omega) (by omega))
    by_cases hlt : i < s.size
    · have il : (i : Int) < (s.size : Int) := by omega
      have hlt2 : i < s.data.toList.length := by have hsz := HSZ.out; omega
      rw [List.drop_eq_getElem_cons hlt2, valF] at hv
      have hbb : s.data.toList[i] = s[i] := rfl
      rw [hbb] at hv
      have hdl := digV_lt s[i]
      obtain ⟨d, hd⟩ : ∃ d, d = digV s[i] := ⟨_, rfl⟩
      rw [← hd] at hv hdl
      have hcall : ∀ W, Calls Tryd.prog 36 #[.string capS, .int .u8 ((s[i]).toNat : Int)] W fun e w' => e = .returned (.int .i64 d) ∧ w' = W := fun W => by rw [hd]; exact HI.out _ W
      have HV := Aside0.mk (And.intro hv (And.intro hb (And.intro hc hcall)))
      clear hv hb hc hd hcall hbb
      by_cases hneg : d < 0
      · go_wp2_with (go_at_call 36; refine (HV.out.2.2.2 wr).mono ?_; rintro e w2 ⟨rfl, rfl⟩)
        go_ret2
        have hv := HV.out.1
        rw [if_pos hneg] at hv
        have hr := HR.out
        have hsz := HSZ.out
        have hp : pointS s.data.toList = none := by unfold pointS; rw [if_neg (by omega), hv]; rfl
        rw [hp] at hr
        subst hr
        exact ⟨rfl, HV.out.2.1⟩
      · obtain ⟨dn, hdn⟩ : ∃ dn : Nat, d = dn := ⟨d.toNat, by omega⟩
        have hd16 : dn < 16 := by omega
        go_wp2_with (go_at_call 36; refine (HV.out.2.2.2 wr).mono ?_; rintro e w2 ⟨rfl, rfl⟩)
        have hor := or16 c dn hc6 hd16
        refine ⟨⟨i + 1, c * 16 + dn, by rw [hor], by go_num, by omega, ?_, ?_, HV.out.2.1⟩, by simp only [RowKit.intOf]; omega⟩
        · have hc := HV.out.2.2.1
          rw [Nat.pow_succ]
          omega
        · have hv := HV.out.1
          rw [if_neg (by omega)] at hv
          rw [hv, hdn]
          rfl
    · have il : ¬ ((i : Int) < (s.size : Int)) := by omega
      have hie : i = s.size := by omega
      have hval : valF s.data.toList 0 = some c := by rw [hv, hie, HSZ.out, List.drop_length]; rfl
      have HV := Aside0.mk (And.intro hval hb)
      clear hv hb hval hc hie
      by_cases hbig : 1114111 < c
      · have hbi : (1114111 : Int) < (c : Int) := by omega
        go_wp2
        go_ret2
        have hr := HR.out
        have hsz := HSZ.out
        have hp : pointS s.data.toList = none := by unfold pointS; rw [if_neg (by omega), HV.out.1]; show (if 1114111 < c then none else _) = none; rw [if_pos hbig]
        rw [hp] at hr
        subst hr
        exact ⟨rfl, HV.out.2⟩
      · have hbi : ¬ ((1114111 : Int) < (c : Int)) := by omega
        have ht := text_calls c hc6 wr (HV.out.2.cell (World.block_lt_of_cell? _ _ HZ.out) |>.trans HZ.out)
        obtain ⟨X, hX⟩ : ∃ X : ByteArray, X = ⟨(hexT c).toArray⟩ := ⟨_, rfl⟩
        rw [← hX] at ht
        have HT := Aside0.mk (And.intro ht hX)
        clear ht hX
        by_cases heq : X = s
        · have hb1 : (X.toList == s.toList) = true := by rw [heq]; simp
          have HE := Aside0.mk heq
          clear heq
          go_wp2_with (go_at_call 19; refine HT.out.1.mono ?_; rintro e w2 ⟨rfl, hb2⟩; have HB2 := Aside0.mk hb2; clear hb2)
          go_ret2
          have hr := HR.out
          have hsz := HSZ.out
          have hp : pointS s.data.toList = some c := by
            unfold pointS
            rw [if_neg (by omega), HV.out.1]
            show (if 1114111 < c then none else if hexT c = s.data.toList then some c else none) = some c
            rw [if_neg hbig, if_pos (by rw [← HE.out, HT.out.2])]
          rw [hp] at hr
          subst hr
          exact ⟨rfl, HV.out.2.trans (HB2.out.mono HV.out.2.size)⟩
        · have hb1 : (X.toList == s.toList) = false := by
            rw [beq_eq_false_iff_ne]
            intro h
            exact heq (toList_inj9 h)
          have HE := Aside0.mk heq
          clear heq
          go_wp2_with (go_at_call 19; refine HT.out.1.mono ?_; rintro e w2 ⟨rfl, hb2⟩; have HB2 := Aside0.mk hb2; clear hb2)
          go_ret2
          have hr := HR.out
          have hsz := HSZ.out
          have hp : pointS s.data.toList = none := by
            unfold pointS
            rw [if_neg (by omega), HV.out.1]
            show (if 1114111 < c then none else if hexT c = s.data.toList then some c else none) = none
            rw [if_neg hbig, if_neg]
            intro h
            exact HE.out (by rw [HT.out.2, h])
          rw [hp] at hr
          subst hr
          exact ⟨rfl, HV.out.2.trans (HB2.out.mono HV.out.2.size)⟩
end Go.Proofs.YtgfmplhpoblleaaDoor.FieldW
