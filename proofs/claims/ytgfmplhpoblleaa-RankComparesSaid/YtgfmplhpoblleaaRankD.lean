/- rank.Merge, rank.Sort in the print's form: a plain function, and that the Go text comes to it. -/
import Derived.Test.YtgfmplhpoblleaaRankC
namespace Go.Proofs.Ytgfmplhpoblleaa.RankD
open Go.RowKit Go.Proofs.YtgfmplhpoblleaaW.PrintWords Go.Proofs.YtgfmplhpoblleaaW.PrintLast Go.Proofs.YtgfmplhpoblleaaW.PrintMore Go.Proofs.Ytgfmplhpoblleaa.PRank Go.Proofs.Ytgfmplhpoblleaa.RankW
open Go.Proofs.Ytgfmplhpoblleaa Go.Proofs.Ytgfmplhpoblleaa.Cmps
set_option linter.unusedVariables false
set_option linter.unusedSimpArgs false

/-- A find put into its place among rising ones; one that is there is not put twice. -/
def put (x : S33) : List S33 → List S33
  | [] => [x]
  | y :: r => if cmpF x y < 0 then x :: y :: r else if cmpF x y = 0 then y :: r else y :: put x r
def fsort : List S33 → List S33
  | [] => []
  | x :: r => put x (fsort r)
theorem put_mem (x : S33) : ∀ l y, y ∈ put x l ↔ y = x ∨ y ∈ l
  | [], y => by simp [put]
  | z :: r, y => by
    simp only [put]
    by_cases h : cmpF x z < 0
    · rw [if_pos h]; simp
    · rw [if_neg h]
      by_cases h0 : cmpF x z = 0
      · rw [if_pos h0]
        have := cmpF_eq x z h0
        subst this
        simp
      · rw [if_neg h0, List.mem_cons, put_mem x r y, List.mem_cons]
        constructor
        · rintro (h | h | h)
          · exact .inr (.inl h)
          · exact .inl h
          · exact .inr (.inr h)
        · rintro (h | h | h)
          · exact .inr (.inl h)
          · exact .inl h
          · exact .inr (.inr h)
theorem put_rising (x : S33) : ∀ l, l.Pairwise (fun a b => cmpF a b < 0) → (put x l).Pairwise (fun a b => cmpF a b < 0)
  | [], _ => by simp [put]
  | z :: r, h => by
    obtain ⟨h1, h2⟩ := List.pairwise_cons.1 h
    simp only [put]
    by_cases hl : cmpF x z < 0
    · rw [if_pos hl]
      refine List.pairwise_cons.2 ⟨fun y hy => ?_, h⟩
      rcases List.mem_cons.1 hy with rfl | hy
      · exact hl
      · exact cmpF_cmp.lt_le _ _ _ hl (by have := h1 y hy; omega)
    · rw [if_neg hl]
      by_cases h0 : cmpF x z = 0
      · rw [if_pos h0]; exact h
      · rw [if_neg h0]
        refine List.pairwise_cons.2 ⟨fun y hy => ?_, put_rising x r h2⟩
        rcases (put_mem x r y).1 hy with rfl | hy
        · have := cmpF_cmp.anti y z; omega
        · exact h1 y hy
theorem fsort_rising : ∀ l, (fsort l).Pairwise (fun a b => cmpF a b < 0)
  | [] => List.Pairwise.nil
  | x :: r => put_rising x _ (fsort_rising r)
theorem fsort_mem : ∀ (l : List S33) (y : S33), y ∈ fsort l ↔ y ∈ l
  | [], y => Iff.rfl
  | x :: r, y => by rw [fsort, put_mem, fsort_mem r y, List.mem_cons]
theorem fsort_unique {l m : List S33} (h : m.Pairwise (fun a b => cmpF a b < 0)) (hm : ∀ x, x ∈ m ↔ x ∈ l) : m = fsort l :=
  rising_unique cmpF_cmp h (fsort_rising l) (fun x => by rw [hm, fsort_mem])

/-- Are labels and lists of a size that a machine bears? -/
def fits (l : List S33) : Bool := decide (l.length ≤ 1000000000) && l.all fun x => decide (x.f0.length ≤ 1000000000000)
def rank_Merge.f (l0 : List (List S33)) : Option (List S33) := if fits l0.flatten = true then some (fsort l0.flatten) else none
def rank_Sort.f (l0 : List S33) : Option (List S33) := if fits l0 = true then some (fsort l0) else none

theorem rank_Merge.calls (A0 : Option Addr) (c0 : Nat) (l0 : List (List S33)) (r : List S33) (w : World) (hr0 : Kd.C (Kd.slice 33 k33) w A0 l0.length l0) (hc0 : l0.length ≤ c0) (h : rank_Merge.f l0 = some r) :
    Calls Try.prog 32 #[.slice A0 l0.length c0] w fun e w' => ∃ v0_ : Value, e = .returned (v0_) ∧ Kd.N k33 33 w' w.heap.size (fun k_ => w.heap.size ≤ k_) v0_ r ∧ Below w.heap.size w w' := by
  unfold rank_Merge.f at h
  by_cases hf : fits l0.flatten = true
  · rw [if_pos hf] at h
    obtain rfl := Option.some.inj h
    unfold fits at hf
    rw [Bool.and_eq_true, decide_eq_true_eq, List.all_eq_true] at hf
    refine (merge_calls w A0 c0 l0 hr0 hc0 hf.1 (fun l hl x hx => of_decide_eq_true (hf.2 x (List.mem_flatten.2 ⟨l, hl, hx⟩)))).mono ?_
    rintro e w' ⟨v, s, rfl, hp, hs, hN, hb⟩
    obtain ⟨h1, h2⟩ := dedup_sorted cmpF_cmp cmpF_eq hs
    have := fsort_unique (l := l0.flatten) h1 (fun x => (h2 x).trans hp.mem_iff)
    rw [this] at hN
    exact ⟨v, rfl, hN, hb⟩
  · rw [if_neg hf] at h; cases h

set_option maxHeartbeats 800000 in
set_option maxRecDepth 100000 in
theorem rank_Sort.calls (A0 : Option Addr) (c0 : Nat) (l0 : List S33) (r : List S33) (w : World) (hr0 : Kd.C k33 w A0 l0.length l0) (hc0 : l0.length ≤ c0) (h : rank_Sort.f l0 = some r) :
    Calls Try.prog 30 #[.slice A0 l0.length c0] w fun e w' => ∃ v0_ : Value, e = .returned (v0_) ∧ Kd.N k33 33 w' w.heap.size (fun k_ => w.heap.size ≤ k_) v0_ r ∧ Below w.heap.size w w' := by
  have HR := Aside0.mk hr0
  have h2 : rank_Merge.f [l0] = some r := by
    unfold rank_Merge.f rank_Sort.f at *
    simpa using h
  have H := Aside0.mk h2
  have HC := Aside0.mk hc0
  clear hr0 h h2 hc0
  go_enter Try.func30, Try.ntmps30
  go_wp2_with fail
  have hrow : Kd.C (Kd.slice 33 k33) (w.alloc (.cells #[.slice A0 l0.length c0] 35)) (some ⟨w.heap.size, 0, none⟩) [l0].length [l0] := by
    refine ⟨rfl, by simp, fun _ => ⟨_, rfl, fun j p hj => ?_⟩⟩
    rcases j with _ | j
    · simp only [List.getElem?_cons_zero, Option.some.injEq] at hj
      subst hj
      refine ⟨[.slice A0 l0.length c0], rfl, ⟨A0, c0, rfl, HC.out, Kd.C_below HR.out (below_alloc (Below.refl _ _) _)⟩, fun i u hu => ?_⟩
      rcases i with _ | i
      · simp only [List.getElem?_cons_zero, Option.some.injEq] at hu
        subst hu
        rw [head_add]

        simp [Kd.slice]
      · simp at hu
    · simp at hj
  refine (rank_Merge.calls _ 1 [l0] r _ hrow (by simp) H.out).mono ?_
  rintro e w1 ⟨v, rfl, hN, hb⟩
  have N1 := Aside0.mk hN
  have B1 := Aside0.mk hb
  clear hN hb hrow
  go_wp2
  go_ret
  refine ⟨_, rfl, ?_, ((Below.refl _ _).alloc (Nat.le_refl _) _).trans (B1.out.mono (by simp))⟩
  exact Kd.N_mono (Kd.N_lower N1.out (by simp)) (fun k hk => by simp at hk; omega)
#print axioms rank_Sort.calls
end Go.Proofs.Ytgfmplhpoblleaa.RankD
