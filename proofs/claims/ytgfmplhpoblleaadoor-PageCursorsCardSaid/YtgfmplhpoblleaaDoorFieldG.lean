/- page: Cursor, Parse, Start, awake. -/
import Derived.Test.YtgfmplhpoblleaaDoorFieldF
import Derived.Shelf.Small.Wraps
namespace Go.Proofs.YtgfmplhpoblleaaDoor.FieldW
open Go.RowKit Go.Shelf Go.Lib Go.Proofs Go.Proofs.YtgfmplhpoblleaaDoorW.PrintWords Go.Proofs.YtgfmplhpoblleaaDoorW.PrintLast Go.Proofs.YtgfmplhpoblleaaDoorW.PrintMore Go.Proofs.YtgfmplhpoblleaaDoor.PRef
set_option linter.unusedVariables false
set_option linter.unusedSimpArgs false

/-- The cursor of a label. -/
def cursorS (l : List Int) : List UInt8 := if textS l = [] then [45] else 61 :: textS l
theorem textS_len (l : List Int) : (textS l).length ≤ l.length * 13 := by
  unfold textS
  split
  · simp
  · have h := join_len [32] 12 (by decide) (l.map fun c => hexT c.toNat) (fun x hx => by
      rw [List.mem_map] at hx
      obtain ⟨c, _, rfl⟩ := hx
      exact hexT_len _)
    rw [List.length_map] at h
    exact h
theorem cat_eq (a : UInt8) (l : List UInt8) : (⟨#[a]⟩ : ByteArray) ++ ⟨l.toArray⟩ = ⟨(a :: l).toArray⟩ := by
  apply ByteArray.ext
  apply Array.toList_inj.1
  rw [ByteArray.data_append, Array.toList_append]
  simp
theorem toList_mk (l : List UInt8) : (⟨l.toArray⟩ : ByteArray).toList = l := by
  rw [ByteArray.toList_eq]
set_option maxRecDepth 100000 in
theorem start_calls (w : World) : Calls Tryd.prog 10 #[] w fun e w' => e = .returned (.string ⟨#[45]⟩) ∧ w' = w := by
  go_enter Tryd.func10, Tryd.ntmps10
  go_wp2
  go_ret
  exact ⟨rfl, rfl⟩
set_option maxRecDepth 100000 in
set_option maxHeartbeats 2000000 in
theorem cursor_calls (A0 : Option Addr) (c0 : Nat) (l : List Int) (w : World) (hr : Kd.C (Kd.int .i64) w A0 l.length l) (hc : l.length ≤ c0) (hl : l.length ≤ 1000000) (hz : w.cell? ⟨6, 15, none⟩ = some (.int .u8 4)) :
    Calls Tryd.prog 5 #[.slice A0 l.length c0] w fun e w' => e = .returned (.string ⟨(cursorS l).toArray⟩) ∧ Go.RowKit.Below w.heap.size w w' := by
  have H := Aside0.mk (ftext_calls A0 c0 l w hr hc hl hz)
  clear hr hz
  have hlen := textS_len l
  obtain ⟨t, ht⟩ : ∃ t : ByteArray, t = ⟨(textS l).toArray⟩ := ⟨_, rfl⟩
  have htl : t.toList = textS l := by rw [ht]; exact toList_mk _
  have hts : t.size = (textS l).length := by rw [ht]; show (textS l).toArray.size = _; simp
  rw [← ht] at H
  by_cases he : textS l = []
  · have hF : cursorS l = [45] := by unfold cursorS; rw [if_pos he]
    have hb0 : (t.toList == []) = true := by rw [htl, he]; rfl
    have hb1 : (t.toList != []) = false := by rw [bne, hb0]; rfl
    have HF := Aside0.mk hF
    clear hF he htl hts ht hlen
    go_enter Tryd.func5, Tryd.ntmps5
    go_wp2_with (go_at_call 11; refine H.out.mono ?_; rintro e w2 ⟨rfl, hb⟩; have HB := Aside0.mk hb; clear hb)
    go_ret
    exact ⟨by rw [HF.out]; rfl, HB.out⟩
  · have hF : (⟨(cursorS l).toArray⟩ : ByteArray) = ⟨#[61]⟩ ++ t := by unfold cursorS; rw [if_neg he, ht, cat_eq]
    have hb0 : (t.toList == []) = false := by rw [htl, beq_eq_false_iff_ne]; exact he
    have hb1 : (t.toList != []) = true := by rw [bne, hb0]; rfl
    have hcat : (⟨#[61]⟩ : ByteArray).size + t.size ≤ 9223372036854775807 := by
      have : (⟨#[61]⟩ : ByteArray).size = 1 := rfl
      omega
    have HF := Aside0.mk hF
    clear hF he htl hts ht hlen
    go_enter Tryd.func5, Tryd.ntmps5
    go_wp2_with (go_at_call 11; refine H.out.mono ?_; rintro e w2 ⟨rfl, hb⟩; have HB := Aside0.mk hb; clear hb)
    go_ret
    exact ⟨by rw [HF.out]; rfl, HB.out⟩
/-- The label of a cursor, and the refusal's code. -/
def parseS (s : List UInt8) : List Int × Int :=
  if s = [45] then ([], 0) else
    let r := seqS (Lib.trimPrefix s [61])
    if Lib.hasPrefix s [61] = false ∨ r.2 ≠ 0 ∨ r.1.length = 0 ∨ 63 < r.1.length then ([], 42) else (r.1, 0)
theorem seqS_code (s : List UInt8) : (seqS s).2 = 0 ∨ (seqS s).2 = 13 := by
  unfold seqS
  split
  · exact .inl rfl
  · split
    · exact .inr rfl
    · exact .inl rfl
theorem seqS_len (s : List UInt8) : (seqS s).1.length ≤ s.length + 1 := by
  have key : ∀ (ps : List (List UInt8)) l, seqL ps = some l → l.length = ps.length := by
    intro ps
    induction ps with
    | nil => intro l h; simp [seqL] at h; subst h; rfl
    | cons p r ih =>
      intro l h
      rw [seqL] at h
      obtain ⟨d, hd, h2⟩ := Option.bind_eq_some_iff.1 h
      obtain ⟨m, hm, rfl⟩ := Option.map_eq_some_iff.1 h2
      simp [ih m hm]
  unfold seqS
  split
  · simp
  · have hl := cutL_len s
    cases h : seqL (cutL s) with
    | none => simp
    | some l => have := key _ _ h; simp; omega
theorem trim_len (s p : List UInt8) : (Lib.trimPrefix s p).length ≤ s.length := by
  unfold Lib.trimPrefix
  split <;> simp
set_option maxRecDepth 100000 in
set_option maxHeartbeats 4000000 in
theorem parse_calls (s : ByteArray) (w : World) (hsz : s.size ≤ 1000000) (hz : w.cell? ⟨6, 15, none⟩ = some (.int .u8 4)) :
    Calls Tryd.prog 6 #[.string s] w fun e w' => ∃ v, e = .returned (.tuple #[v, .int .i64 (parseS s.data.toList).2]) ∧ Kd.R (Kd.int .i64) 3 w' w.heap.size (fun _ => True) v (parseS s.data.toList).1 ∧ Go.RowKit.Below w.heap.size w w' := by
  by_cases hm : s.toList = [45]
  · have hb0 : (s.toList == [45]) = true := by rw [hm]; rfl
    have hP : parseS s.data.toList = ([], 0) := by unfold parseS; rw [← ByteArray.toList_eq, if_pos hm]
    have HP := Aside0.mk hP
    clear hm hP hz
    go_enter Tryd.func6, Tryd.ntmps6
    go_wp2
    go_ret2
    rw [HP.out]
    exact ⟨_, rfl, Kd.R_nil _ _ _ _ _, Go.RowKit.Below.refl _ _⟩
  · have hb0 : (s.toList == [45]) = false := by rw [beq_eq_false_iff_ne]; exact hm
    obtain ⟨u, hu⟩ : ∃ u : ByteArray, u = ⟨(Lib.trimPrefix s.data.toList [61]).toArray⟩ := ⟨_, rfl⟩
    have hud : u.data.toList = Lib.trimPrefix s.data.toList [61] := by rw [hu]
    have husz : u.size ≤ 1000000 := by
      have h1 := trim_len s.data.toList [61]
      have h2 : u.size = u.data.toList.length := by simp
      have h3 : s.size = s.data.toList.length := by simp
      rw [h2, hud]
      omega
    obtain ⟨ok, hok⟩ : ∃ ok, ok = Lib.hasPrefix s.data.toList [61] := ⟨_, rfl⟩
    have hC := Any.strings_CutPrefix Tryd.cutPrefixL s ⟨#[61]⟩ w
    have hC2 : Calls Tryd.prog 12 #[.string s, .string ⟨#[61]⟩] w fun e w' => e = .returned (.tuple #[.string u, .bool ok]) ∧ w' = w := by
      rw [hu, hok]; exact hC
    have HC := Aside0.mk hC2
    have HS := Aside0.mk (sequence_calls u w husz hz)
    have hcode := seqS_code u.data.toList
    have hlen := seqS_len u.data.toList
    have hul : u.data.toList.length ≤ 1000000 := by have h2 : u.size = u.data.toList.length := by simp
                                                    omega
    obtain ⟨r, hr⟩ : ∃ r, r = seqS u.data.toList := ⟨_, rfl⟩
    have hP : parseS s.data.toList = if ok = false ∨ r.2 ≠ 0 ∨ r.1.length = 0 ∨ 63 < r.1.length then ([], 42) else (r.1, 0) := by
      unfold parseS
      rw [← ByteArray.toList_eq, if_neg hm, hr, hud, hok, ByteArray.toList_eq]
    rw [← hr] at HS hcode hlen
    obtain ⟨l, e0⟩ := r
    dsimp only at HS hcode hlen hP
    have hl : l.length ≤ 1000001 := by omega
    clear hC hC2 hm hz hud hu husz hul hlen hok hr hsz
    have HP := Aside0.mk hP
    clear hP
    cases ok with
    | false =>
      rcases hcode with rfl | rfl
      all_goals
        have hE : parseS s.data.toList = ([], 42) := by rw [HP.out, if_pos (.inl rfl)]
        have HE := Aside0.mk hE
        clear hE
        go_enter Tryd.func6, Tryd.ntmps6
        go_wp2_with (first | (go_at_call 12; refine HC.out.mono ?_; rintro e w2 ⟨rfl, rfl⟩) | (go_at_call 13; refine HS.out.mono ?_; rintro e w3 ⟨v, rfl, hR, hb⟩; obtain ⟨A3, c3, rfl⟩ := Kd.R_slice hR; have HR := Aside0.mk (And.intro hR hb); clear hR hb))
        go_ret2
        rw [HE.out]
        exact ⟨_, rfl, Kd.R_nil _ _ _ _ _, HR.out.2⟩
    | true =>
      rcases hcode with rfl | rfl
      · by_cases h0 : l.length = 0
        · have hE : parseS s.data.toList = ([], 42) := by rw [HP.out, if_pos (.inr (.inr (.inl h0)))]
          have h0i : ((l.length : Int) == 0) = true := by rw [h0]; rfl
          have HE := Aside0.mk hE
          clear hE h0
          go_enter Tryd.func6, Tryd.ntmps6
          go_wp2_with (first | (go_at_call 12; refine HC.out.mono ?_; rintro e w2 ⟨rfl, rfl⟩) | (go_at_call 13; refine HS.out.mono ?_; rintro e w3 ⟨v, rfl, hR, hb⟩; obtain ⟨A3, c3, rfl⟩ := Kd.R_slice hR; have HR := Aside0.mk (And.intro hR hb); clear hR hb))
          go_ret2
          rw [HE.out]
          exact ⟨_, rfl, Kd.R_nil _ _ _ _ _, HR.out.2⟩
        · have h0i : ((l.length : Int) == 0) = false := by rw [beq_eq_false_iff_ne]; omega
          by_cases h63 : 63 < l.length
          · have hE : parseS s.data.toList = ([], 42) := by rw [HP.out, if_pos (.inr (.inr (.inr h63)))]
            have h63i : (l.length : Int) > 63 := by omega
            have HE := Aside0.mk hE
            clear hE h0
            go_enter Tryd.func6, Tryd.ntmps6
            go_wp2_with (first | (go_at_call 12; refine HC.out.mono ?_; rintro e w2 ⟨rfl, rfl⟩) | (go_at_call 13; refine HS.out.mono ?_; rintro e w3 ⟨v, rfl, hR, hb⟩; obtain ⟨A3, c3, rfl⟩ := Kd.R_slice hR; have HR := Aside0.mk (And.intro hR hb); clear hR hb))
            go_ret2
            rw [HE.out]
            exact ⟨_, rfl, Kd.R_nil _ _ _ _ _, HR.out.2⟩
          · have hE : parseS s.data.toList = (l, 0) := by
              rw [HP.out, if_neg]
              rintro (h | h | h | h)
              · cases h
              · exact h rfl
              · exact h0 h
              · exact h63 h
            have h63i : ¬ ((l.length : Int) > 63) := by omega
            have HE := Aside0.mk hE
            clear hE h0
            go_enter Tryd.func6, Tryd.ntmps6
            go_wp2_with (first | (go_at_call 12; refine HC.out.mono ?_; rintro e w2 ⟨rfl, rfl⟩) | (go_at_call 13; refine HS.out.mono ?_; rintro e w3 ⟨v, rfl, hR, hb⟩; obtain ⟨A3, c3, rfl⟩ := Kd.R_slice hR; have HR := Aside0.mk (And.intro hR hb); clear hR hb))
            go_ret2
            rw [HE.out]
            exact ⟨_, rfl, HR.out.1, HR.out.2⟩
      · have hE : parseS s.data.toList = ([], 42) := by rw [HP.out, if_pos (.inr (.inl (by decide)))]
        have HE := Aside0.mk hE
        clear hE
        go_enter Tryd.func6, Tryd.ntmps6
        go_wp2_with (first | (go_at_call 12; refine HC.out.mono ?_; rintro e w2 ⟨rfl, rfl⟩) | (go_at_call 13; refine HS.out.mono ?_; rintro e w3 ⟨v, rfl, hR, hb⟩; obtain ⟨A3, c3, rfl⟩ := Kd.R_slice hR; have HR := Aside0.mk (And.intro hR hb); clear hR hb))
        go_ret2
        rw [HE.out]
        exact ⟨_, rfl, Kd.R_nil _ _ _ _ _, HR.out.2⟩
theorem lit_ints {W : World} {b : Nat} (l : List Int) {ty : TypeId} (h : W.heap[b]? = some (.cells (l.map fun x => Value.int .i64 x).toArray ty (0, 0))) (hl : l.length ≤ 1000000) : Kd.C (Kd.int .i64) W (some ⟨b, 0, none⟩) l.length l := by
  refine ⟨rfl, by omega, fun _ => ⟨_, rfl, fun j x hj => ⟨[.int .i64 x], rfl, rfl, ?_⟩⟩⟩
  intro i u hi
  cases i with
  | zero =>
    simp at hi
    subst hi
    have h1 : (Kd.int IntKind.i64).sz = 1 := rfl
    rw [h1]
    have e : (Addr.mk b 0 none).add (j * 1 + 0) = ⟨b, j, none⟩ := by unfold Addr.add; split <;> simp_all
    rw [e, blk_cell h]
    simp [hj]
  | succ i => simp at hi
theorem cursor_ex : (⟨(cursorS [97, 1072]).toArray⟩ : ByteArray).toList = [61, 48, 48, 54, 49, 32, 48, 52, 51, 48] := by
  rw [toList_mk]
  decide
set_option maxRecDepth 100000 in
set_option maxHeartbeats 2000000 in
theorem awake_calls (w : World) (hz : w.cell? ⟨6, 15, none⟩ = some (.int .u8 4)) :
    Calls Tryd.prog 4 #[] w fun e w' => e = .returned (.bool true) ∧ Go.RowKit.Below w.heap.size w w' := by
  obtain ⟨t, ht⟩ : ∃ t : ByteArray, t = ⟨(cursorS [97, 1072]).toArray⟩ := ⟨_, rfl⟩
  have hb0 : (t.toList == [61, 48, 48, 54, 49, 32, 48, 52, 51, 48]) = true := by rw [ht, cursor_ex]; rfl
  have hb1 : ((⟨#[45]⟩ : ByteArray).toList == [45]) = true := by rw [show (⟨#[45]⟩ : ByteArray).toList = [45] from toList_mk [45]]; rfl
  have hw : Go.RowKit.Below w.heap.size w (w.alloc (.cells #[.int .i64 97, .int .i64 1072] 3)) := below_alloc (Go.RowKit.Below.refl _ _) _
  have H := cursor_calls (some ⟨w.heap.size, 0, none⟩) 2 [97, 1072] (w.alloc (.cells #[.int .i64 97, .int .i64 1072] 3)) (lit_ints [97, 1072] (heap_alloc_new _ _) (by decide)) (by decide) (by decide) ((hw.cell (p := ⟨6, 15, none⟩) (lt_of_cell hz)).trans hz)
  rw [← ht] at H
  have HX := Aside0.mk (And.intro H hw)
  clear H hw ht hz
  go_enter Tryd.func4, Tryd.ntmps4
  go_wp2_with (first | (go_at_call 5; refine HX.out.1.mono ?_; rintro e w2 ⟨rfl, hb⟩; have HB := Aside0.mk (HX.out.2.trans (hb.mono HX.out.2.size)); clear hb) | (go_at_call 10; refine (start_calls _).mono ?_; rintro e w3 ⟨rfl, rfl⟩))
  go_ret
  exact ⟨rfl, HB.out⟩
end Go.Proofs.YtgfmplhpoblleaaDoor.FieldW
