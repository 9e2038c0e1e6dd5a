/- field: strings.SplitSeq by one blank: its iterator. -/
import Derived.Test.YtgfmplhpoblleaaDoorFieldC
import Derived.Test.YtgfmplhpoblleaaDoorRng
import Derived.Shelf.Strings.Search3
import Derived.WalkMore
import Derived.TacticsInMore
import Derived.LoopNIn
import Derived.LoopIn
namespace Go.Proofs.YtgfmplhpoblleaaDoor.FieldW
open Go.RowKit Go.Shelf Go.Lib Go.Proofs Go.Proofs.YtgfmplhpoblleaaDoorW.PrintWords Go.Proofs.YtgfmplhpoblleaaDoorW.PrintLast Go.Proofs.YtgfmplhpoblleaaDoorW.PrintMore
set_option linter.unusedVariables false
set_option linter.unusedSimpArgs false
attribute [local go_sem] Oper.semAt_some

/-- A text's pieces, cut by blanks. -/
def cutL : List UInt8 → List (List UInt8)
  | [] => [[]]
  | b :: r => if b == 32 then [] :: cutL r else (b :: (cutL r).headD []) :: (cutL r).tail
theorem cutL_ne : ∀ l : List UInt8, cutL l ≠ []
  | [] => by simp [cutL]
  | b :: r => by rw [cutL]; split <;> simp
theorem cutL_none : ∀ l : List UInt8, Lib.indexByte l 32 < 0 → cutL l = [l]
  | [], _ => rfl
  | b :: r, h => by
    rw [Lib.indexByte] at h
    rw [cutL]
    by_cases hb : (b == 32) = true
    · rw [if_pos hb] at h; omega
    · rw [if_neg hb] at h
      by_cases h1 : (Lib.indexByte r 32 == -1) = true
      · have h2 : Lib.indexByte r 32 < 0 := by have := beq_iff_eq.1 h1; omega
        rw [if_neg hb, cutL_none r h2]; rfl
      · rw [if_neg h1] at h
        have h3 := indexByte_le r 32
        have h4 : Lib.indexByte r 32 ≠ -1 := fun e => h1 (by rw [e]; rfl)
        omega
theorem cutL_some : ∀ (l : List UInt8) (i : Nat), Lib.indexByte l 32 = i → cutL l = l.take i :: cutL (l.drop (i + 1)) ∧ i < l.length
  | [], i, h => by simp [Lib.indexByte] at h
  | b :: r, i, h => by
    rw [Lib.indexByte] at h
    rw [cutL]
    by_cases hb : (b == 32) = true
    · rw [if_pos hb] at h
      obtain rfl : i = 0 := by omega
      rw [if_pos hb]
      exact ⟨by simp, by simp⟩
    · rw [if_neg hb] at h
      by_cases h1 : (Lib.indexByte r 32 == -1) = true
      · rw [if_pos h1] at h; omega
      · rw [if_neg h1] at h
        obtain ⟨j, rfl⟩ : ∃ j, i = j + 1 := ⟨i - 1, by have h3 := indexByte_le r 32; have h4 : Lib.indexByte r 32 ≠ -1 := (fun e => h1 (by rw [e]; rfl)); omega⟩
        obtain ⟨h5, h6⟩ := cutL_some r j (by omega)
        rw [if_neg hb, h5]
        exact ⟨by simp, by simp; omega⟩
theorem grown_set9 (w : World) (p : Addr) (u : Value) : w.grownBy (w.setCell p u) (some p.block) := ⟨rfl, rfl, rfl, by simp [World.setCell], fun k hk hne => Go.RowKit.Below.heap_setCell w _ u k (fun e => hne (by rw [e]))⟩
def cutB (s : ByteArray) : List ByteArray := (cutL s.data.toList).map fun p => ⟨p.toArray⟩
def encT (x : ByteArray) : Array Value := #[.string x]
/-- How long the text in a cell is. -/
def strSz (w : World) (B : Nat) : Nat := match w.cell? ⟨B, 0, none⟩ with
  | some (.string r) => r.size
  | _ => 0
set_option maxHeartbeats 4000000 in
set_option maxRecDepth 100000 in
theorem split_own {w : World} {Bs Bp Bv n0 : Nat} {s : ByteArray} (hs : w.heap[Bs]? = some (.cells #[.string s] 9 (0, 0))) (hp : w.heap[Bp]? = some (.cells #[.string ⟨#[32]⟩] 9 (0, 0))) (hv : w.heap[Bv]? = some (.cells #[.int .i64 0] 3 (0, 0))) (hne : Bp ≠ Bs ∧ Bv ≠ Bs) (hsz : s.size ≤ 1000000) :
    SeqOwn 3 Tryd.prog 46 #[.pointer (some ⟨Bp, 0, none⟩), .pointer (some ⟨Bs, 0, none⟩), .pointer (some ⟨Bv, 0, none⟩)] encT n0 (fun b => b = Bp ∨ b = Bv) (fun b => b = Bs) (cutB s) w := by
  intro lp J Jx W hW hJ hY h0
  have HJ := Aside0.mk hJ
  have HY := Aside0.mk hY
  have s0 := (hW.block _ (blk_lt hs)).trans hs
  have p0 := (hW.block _ (blk_lt hp)).trans hp
  have v0 := (hW.block _ (blk_lt hv)).trans hv
  have ps : W.cell? ⟨Bp, 0, none⟩ = some (.string ⟨#[32]⟩) := (blk_cell p0 0).trans rfl
  have H0 := Aside0.mk (And.intro h0 (And.intro s0 (And.intro p0 (And.intro v0 hne))))
  have hix : ∀ (r : ByteArray) (X : World), Calls Tryd.prog 48 #[.string r, .string ⟨#[32]⟩] X fun e w' => e = .returned (.int .i64 (Lib.indexByte r.data.toList 32)) ∧ w' = X := fun r X => Any.strings_Index_one Tryd.indexL r 32 X
  have HI := Aside0.mk hix
  clear hJ hY h0 hs hp hv s0 p0 v0 hne hix
  refine callsIn_of_wp Tryd.func46 rfl trivial ?_ rfl
  simp only [Tryd.ntmps46, List.size_toArray, List.length_cons, List.length_nil, Nat.reduceAdd, Nat.reduceSub, Array.replicate_succ, Array.replicate_zero, List.push_toArray, List.append_toArray, List.nil_append, List.cons_append]
  refine wpIn_wide.2 ?_
  go_wp2_with fail
  go_loopw [7] (fun v wr => ∃ (r : ByteArray) (pre : List ByteArray) (Z : Nat → Prop), cutB s = pre ++ cutB r ∧ wr.heap[Bs]? = some (.cells #[.string r] 9 (0, 0)) ∧ wr.heap[Bp]? = some (.cells #[.string ⟨#[32]⟩] 9 (0, 0)) ∧ wr.heap[Bv]? = some (.cells #[.int .i64 0] 3 (0, 0)) ∧ Z Bs ∧ J Z pre wr ∧ r.size ≤ 1000000) (fun v wr => strSz wr Bs)
  case atStart => exact ⟨s, [], (fun b => b = Bs), rfl, H0.out.2.1, H0.out.2.2.1, H0.out.2.2.2.1, rfl, H0.out.1, hsz⟩
  case round =>
    obtain ⟨r, pre, Z, hc, hs, hp, hv, hz, hj, hrs⟩ := hrel
    have cs : wr.cell? ⟨Bs, 0, none⟩ = some (.string r) := (blk_cell hs 0).trans rfl
    have cp : wr.cell? ⟨Bp, 0, none⟩ = some (.string ⟨#[32]⟩) := (blk_cell hp 0).trans rfl
    have cv : wr.cell? ⟨Bv, 0, none⟩ = some (.int .i64 0) := (blk_cell hv 0).trans rfl
    have fs := blk_frozen hs 0
    obtain ⟨i, hi⟩ : ∃ i, i = Lib.indexByte r.data.toList 32 := ⟨_, rfl⟩
    have hcall : ∀ X : World, Calls Tryd.prog 48 #[.string r, .string ⟨#[32]⟩] X fun e w' => e = .returned (.int .i64 i) ∧ w' = X := fun X => by rw [hi]; exact HI.out r X
    have hil := indexByte_le r.data.toList 32
    rw [← hi] at hil
    have HR := Aside0.mk (And.intro hc (And.intro hs (And.intro hp (And.intro hv (And.intro hz (And.intro hj (And.intro hi hcall)))))))
    clear hc hs hp hv hz hj hi hcall
    by_cases hneg : i < 0
    · have hcr : cutB r = [r] := by unfold cutB; rw [cutL_none _ (by rw [← HR.out.2.2.2.2.2.2.1]; exact hneg)]; rfl
      have hall : cutB s = pre ++ r :: [] := by rw [HR.out.1, hcr]
      obtain ⟨fn, tmps, assign, body, hy, hRy⟩ := HY.out Z pre r [] _ HR.out.2.2.2.2.2.1 hall
      dsimp only [encT] at hy
      have HR2 := Aside0.mk hRy
      have HALL := Aside0.mk hall
      clear hRy hall hcr
      go_upto_region 10 with (go_at_call 48; refine (HR.out.2.2.2.2.2.2.2 wr).mono ?_; rintro e w2 ⟨rfl, rfl⟩)
      refine (wpIn_wide (n := 3)).1 ?_
      gi_wp2
      refine HR2.out.mono ?_
      rintro e W3 (⟨rfl, hJ3, hk3, hb3⟩ | ⟨rfl, hJx3⟩)
      · gi_wp2
        go_wp2
        go_end0
        exact ⟨⟨_, rfl⟩, .inl ⟨Z, by rw [HALL.out]; exact hJ3⟩⟩
      · gi_wp2
        go_wp2
        go_end0
        exact ⟨⟨_, rfl⟩, .inr ⟨pre, r, [], HALL.out, hJx3⟩⟩
    · obtain ⟨n, hn⟩ : ∃ n : Nat, i = n := ⟨i.toNat, by omega⟩
      subst hn
      obtain ⟨hcr0, hnl⟩ := cutL_some r.data.toList n (by rw [← HR.out.2.2.2.2.2.2.1])
      have hns : n < r.size := by have : r.size = r.data.toList.length := by simp
                                  omega
      obtain ⟨f, hf⟩ : ∃ f, f = r.extract 0 n := ⟨_, rfl⟩
      obtain ⟨t, ht⟩ : ∃ t, t = r.extract (n + 1) r.size := ⟨_, rfl⟩
      have hcr : cutB r = f :: cutB t := by
        unfold cutB
        rw [hcr0, List.map_cons]
        congr 1
        · rw [hf]; apply ByteArray.ext; apply Array.toList_inj.1; simp
        · rw [ht]; congr 2; simp; exact (List.take_of_length_le (by simp)).symm
      have hall : cutB s = pre ++ f :: cutB t := by rw [HR.out.1, hcr]
      obtain ⟨fn, tmps, assign, body, hy, hRy⟩ := HY.out Z pre f (cutB t) _ HR.out.2.2.2.2.2.1 hall
      dsimp only [encT] at hy
      have HR2 := Aside0.mk hRy
      have HALL := Aside0.mk (And.intro hall (And.intro hf ht))
      have hnr : (n : Int) < (r.size : Int) := by omega
      clear hRy hall hcr hcr0 hnl
      rw [hf] at hy
      clear hf ht
      go_upto_region 8 with (go_at_call 48; refine (HR.out.2.2.2.2.2.2.2 wr).mono ?_; rintro e w2 ⟨rfl, rfl⟩)
      refine (wpIn_wide (n := 3)).1 ?_
      gi_wp2
      refine HR2.out.mono ?_
      rintro e W3 (⟨rfl, hJ3, hk3, hb3⟩ | ⟨rfl, hJx3⟩)
      · have s3 := (hk3 Bs (.inl HR.out.2.2.2.2.1)).trans HR.out.2.1
        have p3 := (hk3 Bp (.inr (.inl rfl))).trans HR.out.2.2.1
        have v3 := (hk3 Bv (.inr (.inr rfl))).trans HR.out.2.2.2.1
        have cs : W3.cell? ⟨Bs, 0, none⟩ = some (.string r) := (blk_cell s3 0).trans rfl
        have cp : W3.cell? ⟨Bp, 0, none⟩ = some (.string ⟨#[32]⟩) := (blk_cell p3 0).trans rfl
        have fs := blk_frozen s3 0
        have HP := Aside0.mk (And.intro hJ3 (And.intro s3 (And.intro p3 v3)))
        clear hJ3 hk3 hb3 s3 p3 v3
        gi_wp2
        go_wp2
        obtain ⟨hj3, s3, p3, v3⟩ := HP.out
        obtain ⟨hall, hf, ht⟩ := HALL.out
        rw [← ht]
        have b1 := blk_set s3 0 (.string t)
        have hts : t.size < r.size := by rw [ht, ByteArray.size_extract]; omega
        refine ⟨⟨t, pre ++ [f], Z, by rw [hall]; simp, b1, (Go.RowKit.Below.heap_setCell _ ⟨Bs, 0, none⟩ _ _ H0.out.2.2.2.2.1).trans p3, (Go.RowKit.Below.heap_setCell _ ⟨Bs, 0, none⟩ _ _ H0.out.2.2.2.2.2).trans v3, HR.out.2.2.2.2.1, HJ.out _ _ _ _ _ (some Bs) hj3 (grown_set9 _ _ _) (fun q e => by cases e; exact HR.out.2.2.2.2.1) (fun b hb => .inl hb), by omega⟩, ?_⟩
        have e1 : strSz (W3.setCell ⟨Bs, 0, none⟩ (.string t)) Bs = t.size := by
          unfold strSz; rw [blk_cell b1 0]; rfl
        have e2 : strSz w2 Bs = r.size := by
          unfold strSz; rw [blk_cell HR.out.2.1 0]; rfl
        rw [e1, e2]
        exact hts
      · gi_wp2
        go_wp2
        refine bodyPost_ret (results_none rfl _ _ _) rfl ?_
        exact ⟨⟨_, rfl⟩, .inr ⟨pre, f, cutB t, HALL.out.1, hJx3⟩⟩
end Go.Proofs.YtgfmplhpoblleaaDoor.FieldW
