/- What a find's cells, and a row of finds, read as. -/
import Derived.Test.YtgfmplhpoblleaaOpenKd
import Derived.Test.YtgfmplhpoblleaaPRankx0
namespace Go.Proofs.Ytgfmplhpoblleaa.RankO
open Go.ChangeShapes Go.WideShapes Go.ChangeAt Go.RowKit Go.Proofs.YtgfmplhpoblleaaW.PrintWords Go.Proofs.Ytgfmplhpoblleaa.PRank
set_option linter.unusedVariables false
theorem laid : laidOutB Try.prog = true := by kernel_rfl
theorem heap33 : Kd.Heap k33 := Kd.heap_iso _ (Kd.heap_pair (Kd.heap_slice _ (Kd.heap_int _)) (Kd.heap_pair (Kd.heap_int _) (Kd.heap_pair (Kd.heap_int _) (Kd.heap_pair Kd.heap_bool (Kd.heap_int _)))))
section
variable {H : Type} {enc : TypeId × Value → H} {w : World} {base : Nat} {spare : Nat → Bool} {held : Bool}
theorem finds : OpenKd.Opn enc Try.prog w base spare held k33 (fun _ => True) 33 := by
  have h3 := OpenKd.opn_int (enc := enc) (w := w) (base := base) (spare := spare) (held := held) Try.underlying3
  have h4 := OpenKd.opn_bool (enc := enc) (w := w) (base := base) (spare := spare) (held := held) Try.underlying4
  have h23 := OpenKd.opn_slice (enc := enc) (w := w) (base := base) (spare := spare) (held := held) 3 Try.underlying23 (by kernel_rfl) h3
  have := OpenKd.opn_struct (enc := enc) (w := w) (base := base) (spare := spare) (held := held) Try.underlying33 (by kernel_rfl)
    (OpenKd.opnF_cons rfl (by kernel_rfl) h23 (OpenKd.opnF_cons rfl (by kernel_rfl) h3 (OpenKd.opnF_cons rfl (by kernel_rfl) h3 (OpenKd.opnF_cons rfl (by kernel_rfl) h4 (OpenKd.opnF_one rfl (by kernel_rfl) h3)))))
  have := OpenKd.opn_iso (fun x : S33 => (x.f0, x.f1, x.f2, x.f3, x.f4)) (fun p => ⟨p.1, p.2.1, p.2.2.1, p.2.2.2.1, p.2.2.2.2⟩) (fun _ => rfl) this
  intro fuel cs x hx
  obtain ⟨a, ha, -⟩ := this fuel cs x hx
  exact ⟨a, ha, trivial⟩
theorem one33 {v : Value} {cs : Array Value} {d : DataW H} {ps : List MemPlace} (e : v = .agg cs) (h : DataW.Trod enc Try.prog w base spare held 33 v d ps) :
    ∃ (x : S33) (c : Nat) (A : Option Addr), v = .agg #[.slice A x.f0.length c, .int .i64 x.f1, .int .i64 x.f2, .bool x.f3, .int .i64 x.f4] ∧ Kd.V (Kd.int .i64) 3 w w.heap.size (fun _ => True) (.slice A x.f0.length c) x.f0 := by
  subst e
  obtain ⟨fuel, hx⟩ := h
  obtain ⟨x, hx, -⟩ := finds _ _ _ hx
  obtain ⟨A0, c0, he, hl, hC⟩ := k33_open hx
  refine ⟨x, c0, A0, ?_, Kd.V_mk hl (fun W' hW => (Kd.heap_int _).C (fun k hk => hW k trivial hk) hC)⟩
  have he2 : cs.toList = _ := he
  rw [← Array.toList_inj.1 (show cs.toList = #[Value.slice A0 x.f0.length c0, .int .i64 x.f1, .int .i64 x.f2, .bool x.f3, .int .i64 x.f4].toList from he2)]
end
end Go.Proofs.Ytgfmplhpoblleaa.RankO
