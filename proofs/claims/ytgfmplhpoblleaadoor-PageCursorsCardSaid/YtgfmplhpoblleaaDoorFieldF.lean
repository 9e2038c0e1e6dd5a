/- field: Text. -/
import Derived.Test.YtgfmplhpoblleaaDoorFieldE
import Derived.Lib.SlBy
namespace Go.Proofs.YtgfmplhpoblleaaDoor.FieldW
open Go.RowKit Go.Shelf Go.Lib Go.Proofs Go.Proofs.YtgfmplhpoblleaaDoorW.PrintWords Go.Proofs.YtgfmplhpoblleaaDoorW.PrintLast Go.Proofs.YtgfmplhpoblleaaDoorW.PrintMore Go.Proofs.YtgfmplhpoblleaaDoor.PRef
set_option linter.unusedVariables false
set_option linter.unusedSimpArgs false

/-- No code point. -/
def badC (c : Int) : Bool := decide (c < 0) || decide (1114111 < c)
set_option maxRecDepth 100000 in
theorem bad_calls (c : Int) (w : World) : Calls Tryd.prog 18 #[.int .i64 c] w fun e w' => e = .returned (.bool (badC c)) ∧ w' = w := by
  by_cases h0 : c < 0
  · go_enter Tryd.func18, Tryd.ntmps18
    go_wp2
    go_ret
    exact ⟨by simp [badC, h0], rfl⟩
  · by_cases h1 : 1114111 < c
    · have h2 : c > 1114111 := h1
      go_enter Tryd.func18, Tryd.ntmps18
      go_wp2
      go_ret
      exact ⟨by simp [badC, h0, h1], rfl⟩
    · have h2 : ¬ c > 1114111 := h1
      go_enter Tryd.func18, Tryd.ntmps18
      go_wp2
      go_ret
      exact ⟨by simp [badC, h0, h1], rfl⟩
set_option maxRecDepth 100000 in
set_option maxHeartbeats 2000000 in
theorem index_calls (A : Option Addr) (c0 : Nat) (l : List Int) (w : World) (hr : Kd.C (Kd.int .i64) w A l.length l) (hc : l.length ≤ c0) :
    Calls Tryd.prog 27 #[.slice A l.length c0, .func (.func 18) #[] #[]] w fun e w' => e = .returned (.int .i64 (Lib.idxBy (fun _ y => badC y) l default)) ∧ ∃ q, w' = w.drewN q := by
  have hbig : l.length ≤ 9223372036854775807 := Kd.C_max hr
  have HR := Aside0.mk hr
  clear hr
  go_enter Tryd.func27, Tryd.ntmps27
  go_wp2
  go_loopg [5, 8] l.length (fun gg _ s8 wr => ∃ kk q : Nat, kk ≤ l.length ∧ l.length - kk ≤ gg ∧ s8 = .int .i64 kk ∧ wr = w.drewN q ∧ Aside (∀ j, j < kk → badC l[j]! = false))
  case atStart => exact ⟨0, 0, Nat.zero_le _, by omega, rfl, rfl, fun j hj => absurd hj (Nat.not_lt_zero _)⟩
  case round =>
    obtain ⟨kk, q, hkk, hg, rfl, rfl, A1⟩ := hrel
    by_cases hlt : kk < l.length
    · have hltz : (kk : Int) < (l.length : Int) := by omega
      obtain ⟨ad, rfl, hcell0⟩ := Kd.at_int HR.out kk (by omega) (by omega)
      have hcell : w.cell? (ad.add kk) = some (.int .i64 l[kk]!) := by
        rw [Int.toNat_natCast] at hcell0
        rw [hcell0]
        simp [rd, hlt]
      clear hcell0
      generalize hy : l[kk]! = y at hcell
      have B : Aside (l[kk]! = y) := hy
      clear hy
      cases hq : badC y with
      | true =>
        have HQ := Aside0.mk hq
        clear hq
        go_wp2_with (go_at_call 18; refine (bad_calls y _).mono ?_; rintro e w' ⟨rfl, rfl⟩; rw [HQ.out])
        go_ret
        refine ⟨?_, _, rfl⟩
        have h := Lib.idxBy_hit (fun _ y => badC y) l l.length kk default hlt (Nat.le_refl _) (by show badC l[kk]! = true; rw [B.out]; exact HQ.out) A1.out
        rw [List.take_length] at h
        exact (congrArg (fun i => Ending.returned (.int .i64 i)) h).symm
      | false =>
        have HQ := Aside0.mk hq
        clear hq
        go_wp2_with (go_at_call 18; refine (bad_calls y _).mono ?_; rintro e w' ⟨rfl, rfl⟩; rw [HQ.out])
        go_roundg (l.length - (kk + 1))
        case measure => omega
        case rel =>
          refine ⟨kk + 1, _, by omega, by omega, by go_num, rfl, (show Aside _ from fun j hj => ?_)⟩
          by_cases e : j = kk
          · subst e
            rw [B.out]; exact HQ.out
          · exact A1.out j (by omega)
    · have hltz : ¬ (kk : Int) < (l.length : Int) := by omega
      have : kk = l.length := by omega
      subst this
      go_wp2
      go_ret
      refine ⟨?_, q, rfl⟩
      have h := Lib.idxBy_miss (fun _ y => badC y) l l.length default A1.out
      rw [List.take_length] at h
      exact (congrArg (fun i => Ending.returned (.int .i64 i)) h).symm
set_option maxRecDepth 100000 in
theorem contains_calls (A : Option Addr) (c0 : Nat) (l : List Int) (w : World) (hr : Kd.C (Kd.int .i64) w A l.length l) (hc : l.length ≤ c0) (b : Bool) (hb : l.any badC = b) :
    Calls Tryd.prog 17 #[.slice A l.length c0, .func (.func 18) #[] #[]] w fun e w' => e = .returned (.bool b) ∧ Go.RowKit.Below w.heap.size w w' := by
  have H := Aside0.mk (index_calls A c0 l w hr hc)
  clear hr
  have hd : decide (0 ≤ Lib.idxBy (fun _ y => badC y) l default) = b := (Lib.idxBy_nonneg_iff (fun _ y => badC y) l default).trans hb
  obtain ⟨i, hi⟩ : ∃ i, i = Lib.idxBy (fun _ y => badC y) l default := ⟨_, rfl⟩
  rw [← hi] at H hd
  clear hi hb
  go_enter Tryd.func17, Tryd.ntmps17
  go_wp2_with (go_at_call 27; refine H.out.mono ?_; rintro e w' ⟨rfl, q, rfl⟩)
  go_ret
  exact ⟨by first | rfl | (simp [← hd]; done) | (rw [← hd]; rfl), by repeat (first | exact Go.RowKit.Below.refl _ _ | apply pw_below_drewN | apply below_drew1)⟩
/-- The code points' texts, a space between two; nothing where one is no code point. -/
def textS (l : List Int) : List UInt8 := if l.any badC then [] else Lib.join (l.map fun c => hexT c.toNat) [32]
theorem info9' : (Tryd.prog.info? 9).map (fun i => (i.zero, i.size, i.bytes)) = some (some (.string ⟨#[]⟩), 1, 16) := info9
theorem Tryd.xJ : Builder.Extra Tryd.prog Tryd.joinL_ren where
  sizeBuilder := by kernel_rfl
  liesBuilder := by kernel_rfl
  t5 := Tryd.underlying5
  a5 := Tryd.isAgg5
  z5 := Tryd.sizeOf5
  v5 := Tryd.zeroValue5
  infoByte := by kernel_rfl
  cellsByte := by kernel_rfl
  sizeByte := by kernel_rfl
  neB5 := by decide
theorem hexT_len (n : Nat) : (hexT n).length ≤ 12 := by
  have h := hexF_len 8 n
  unfold hexT
  rw [List.length_append, Lib.repeatL_length]
  simp [Lib.toUpperA]
  omega
theorem join_len (sep : List UInt8) (m : Nat) (hs : sep.length ≤ 1) : ∀ (xs : List (List UInt8)), (∀ x ∈ xs, x.length ≤ m) → (Lib.join xs sep).length ≤ xs.length * (m + 1)
  | [], _ => by simp [Lib.join_nil]
  | x :: r, h => by
    rw [Lib.join_cons, List.length_append]
    have h1 := h x (by simp)
    have h2 : (Lib.joinTail sep r).length ≤ r.length * (m + 1) := by
      have : ∀ q : List (List UInt8), (∀ x ∈ q, x.length ≤ m) → (Lib.joinTail sep q).length ≤ q.length * (m + 1) := by
        intro q
        induction q with
        | nil => intro _; simp [Lib.joinTail]
        | cons y t ih =>
          intro hq
          have h3 := ih (fun x hx => hq x (by simp [hx]))
          have h4 := hq y (by simp)
          have : (Lib.joinTail sep (y :: t)).length = sep.length + y.length + (Lib.joinTail sep t).length := by simp [Lib.joinTail, Nat.add_assoc]
          rw [this, List.length_cons, Nat.succ_mul]
          omega
      exact this r (fun x hx => h x (by simp [hx]))
    rw [List.length_cons, Nat.succ_mul]
    omega
/-- The texts as Go holds them. -/
def txB (l : List Int) : List ByteArray := l.map fun c => ⟨(hexT c.toNat).toArray⟩
theorem txB_take (l : List Int) (k : Nat) (h : k < l.length) : txB (l.take (k + 1)) = txB (l.take k) ++ [⟨(hexT l[k]!.toNat).toArray⟩] := by
  unfold txB
  rw [List.take_add_one, List.map_append]
  simp [h]
theorem join_calls (A : Option Addr) (c : Nat) (xs : List ByteArray) (w : World) (base : Nat) (hR : Kd.R Kd.string 9 w base (fun _ => True) (.slice A xs.length c) xs) (hl : xs.length ≤ 1000000) (hx : ∀ x ∈ xs, x.data.toList.length ≤ 12) :
    Calls Tryd.prog 20 #[.slice A xs.length c, .string ⟨#[32]⟩] w fun e w' => e = .returned (.string ⟨(Lib.join (xs.map (·.data.toList)) [32]).toArray⟩) ∧ Go.RowKit.Below w.heap.size w w' := by
  have hj : (Lib.join (xs.map (·.data.toList)) [32]).length ≤ 140737488355328 := by
    have h := join_len [32] 12 (by decide) (xs.map (·.data.toList)) (fun x hx2 => by
      rw [List.mem_map] at hx2
      obtain ⟨y, hy, rfl⟩ := hx2
      exact hx y hy)
    rw [List.length_map] at h
    omega
  have hC := (Kd.R_reads' hR).2.2
  have hcap := (Kd.R_reads' hR).2.1
  obtain ⟨_, inner, hown, _⟩ := hR
  rcases hown.2 with ⟨e1, e2⟩ | ⟨g, cap, cur, e1, hg, hh, r⟩
  · injection e1 with e1 e2' e3
    have : xs = [] := List.eq_nil_of_length_eq_zero e2'
    subst this
    refine (Any.strings_Join_none Tryd.joinL Tryd.xJ A c ⟨#[32]⟩ w).mono ?_
    rintro e w' ⟨he, rfl⟩
    exact ⟨he, Go.RowKit.Below.refl _ _⟩
  · injection e1 with e1 e2' e3
    subst e1
    refine (Any.strings_Join Tryd.joinL Tryd.xJ g 0 c xs ⟨#[32]⟩ w (fun k x hk => ?_) (blk_lt hh) (by omega) hcap hj).mono fun e w' h => h
    have hk2 : k < xs.length := (List.getElem?_eq_some_iff.1 hk).1
    obtain ⟨ad, e1, hcell⟩ := Kd.at_string hC k (by omega) (by omega)
    injection e1 with e1
    subst e1
    rw [Int.toNat_natCast] at hcell
    have h2 : rdOf ByteArray.empty xs (k : Int) = x := by simp [rdOf, hk]
    rw [h2] at hcell
    cases k <;> simpa [Addr.add] using hcell
set_option maxRecDepth 100000 in
set_option maxHeartbeats 4000000 in
theorem ftext_calls (A0 : Option Addr) (c0 : Nat) (l : List Int) (w : World) (hr : Kd.C (Kd.int .i64) w A0 l.length l) (hc : l.length ≤ c0) (hl : l.length ≤ 1000000) (hz : w.cell? ⟨6, 15, none⟩ = some (.int .u8 4)) :
    Calls Tryd.prog 11 #[.slice A0 l.length c0] w fun e w' => e = .returned (.string ⟨(textS l).toArray⟩) ∧ Go.RowKit.Below w.heap.size w w' := by
  have HR := Aside0.mk hr
  have HC := Aside0.mk hc
  have hz6 : 6 < w.heap.size := lt_of_cell hz
  have HZ := Aside0.mk (And.intro hz hz6)
  clear hr hc hz hz6
  have HK := fun b hb => Aside0.mk (contains_calls A0 c0 l w HR.out HC.out b hb)
  cases hany : l.any badC with
  | true =>
    have hT : textS l = [] := by unfold textS; rw [hany]; rfl
    have H := HK true hany
    clear HK hany
    go_enter Tryd.func11, Tryd.ntmps11
    go_wp2_with (go_at_call 17; refine H.out.mono ?_; rintro e w2 ⟨rfl, hb⟩; have HB := Aside0.mk hb; clear hb)
    go_ret
    exact ⟨by rw [hT]; rfl, HB.out⟩
  | false =>
    have H := HK false hany
    clear HK
    have hT : textS l = Lib.join (l.map fun c => hexT c.toNat) [32] := by unfold textS; rw [hany]; rfl
    have hgood : ∀ j, j < l.length → ∃ n : Nat, l[j]! = (n : Int) ∧ n < 16 ^ 6 := fun j hj => by
      have h1 := (List.any_eq_false.1 hany) l[j] (List.getElem_mem hj)
      have h2 : l[j]! = l[j] := by simp [hj]
      rw [h2]
      simp [badC] at h1
      exact ⟨l[j].toNat, by omega, by omega⟩
    have HG := Aside0.mk hgood
    have HT := Aside0.mk hT
    clear hany hgood hT
    go_enter Tryd.func11, Tryd.ntmps11
    go_wp2_with (go_at_call 17; refine H.out.mono ?_; rintro e w2 ⟨rfl, hb⟩; have HB := Aside0.mk hb; clear hb)
    go_loopg [3, 5, 10] l.length (fun gg s3 _ s10 wr => ∃ kk : Nat, kk ≤ l.length ∧ l.length - kk ≤ gg ∧ s10 = .int .i64 kk ∧ Aside0 (Kd.R Kd.string 9 wr w.heap.size (fun _ => True) s3 (txB (l.take kk))) ∧ Aside0 (Go.RowKit.Below w.heap.size w wr))
    case atStart => exact ⟨0, Nat.zero_le _, by omega, rfl, ⟨Kd.R_nil _ _ _ _ _⟩, HB⟩
    case round =>
      obtain ⟨kk, hkk, hg, rfl, HO, HB⟩ := hrel
      by_cases hlt : kk < l.length
      · have hltz : (kk : Int) < (l.length : Int) := by omega
        obtain ⟨ad, rfl, hcell0⟩ := Kd.at_int (Kd.C_below HR.out HB.out) kk (by omega) (by omega)
        obtain ⟨n, hn, hn6⟩ := HG.out kk hlt
        have hcell : wr.cell? (ad.add kk) = some (.int .i64 (n : Int)) := by
          rw [Int.toNat_natCast] at hcell0
          rw [hcell0, ← hn]
          simp [rd, hlt]
        clear hcell0
        have hzW : wr.cell? ⟨6, 15, none⟩ = some (.int .u8 4) := (HB.out.cell (p := ⟨6, 15, none⟩) HZ.out.2).trans HZ.out.1
        have HX := Aside0.mk (text_calls n hn6 wr hzW)
        have hE : txB (l.take (kk + 1)) = txB (l.take kk) ++ [⟨(hexT n).toArray⟩] := by rw [txB_take l kk hlt, hn]; rfl
        have hlk : (txB (l.take kk)).length = kk := by simp [txB]; omega
        have HN := Aside0.mk (And.intro hn (And.intro hE hlk))
        obtain ⟨p, hp⟩ : ∃ p : ByteArray, p = ⟨(hexT n).toArray⟩ := ⟨_, rfl⟩
        rw [← hp] at HX HN
        have HP := Aside0.mk hp
        clear hn hn6 hE hlk hzW hp
        obtain ⟨xs, hxs⟩ : ∃ xs, xs = txB (l.take kk) := ⟨_, rfl⟩
        rw [← hxs] at HO HN
        have HXS := Aside0.mk hxs
        clear hxs
        go_wp2_with (first
          | (go_at_call 19; refine HX.out.mono ?_; rintro e w3 ⟨rfl, hb⟩; have HB3 := Aside0.mk (below_step HB.out hb); have HO3 := Aside0.mk (Kd.R_below HO.out hb); clear hb)
          | ((with_reducible refine gate_builtin (b := .append) (xs := #[.tmp 14, .tmp 17]) rfl ?_); at_builtin; go_loud (refine Kd.R_append Kd.string (w0 := w) w.heap.size rfl (.tmp 14) (.tmp 17) 38 9 (.string ⟨#[]⟩) 16 rfl Tryd.underlying38 info9 rfl (by decide) (by omega) u3 xs p [.string p] (fun _ => True) (fun _ => False) rfl rfl rfl (fun _ hk => hk.elim) (fun _ _ => trivial) HO3.out HB3.out HB3.out.size (by have := HN.out.2.2; omega) ?_); intro v4 w4 ho4 hb4 hg4 hat4; have H4 := Aside0.mk (And.intro ho4 hb4); clear ho4 hb4 hg4 hat4))
        go_roundg (l.length - (kk + 1))
        case measure => omega
        case rel =>
          refine ⟨kk + 1, by omega, by omega, by go_num, ⟨?_⟩, ⟨H4.out.2⟩⟩
          rw [HN.out.2.1]
          exact H4.out.1
      · have hltz : ¬ (kk : Int) < (l.length : Int) := by omega
        have : kk = l.length := by omega
        subst this
        obtain ⟨A3, c3, rfl⟩ := Kd.R_slice HO.out
        rw [List.take_length] at HO
        have hls : (txB (l.take l.length)).length = (txB l).length := by rw [List.take_length]
        rw [hls]
        have HJ := Aside0.mk (join_calls A3 c3 (txB l) wr w.heap.size HO.out (by simp [txB]; omega) (fun x hx => by
          simp only [txB, List.mem_map] at hx
          obtain ⟨c, _, rfl⟩ := hx
          exact hexT_len _))
        go_wp2_with (go_at_call 20; refine HJ.out.mono ?_; rintro e w5 ⟨rfl, hb⟩; have HB5 := Aside0.mk (below_step HB.out hb); clear hb)
        go_ret
        refine ⟨?_, HB5.out⟩
        rw [HT.out]
        simp [txB, Function.comp_def]
end Go.Proofs.YtgfmplhpoblleaaDoor.FieldW
