-- printed by the kit's print.py over several roots (printroots.sh): no hand has typed this
import Derived.Test.YtgfmplhpoblleaaProg
import Derived.Below
import Derived.Deep.Draws
import Derived.Deep.AppendLies
import Derived.Maps.AppendAt
import Derived.OwnWalk
import Derived.Laws.BytesArg
import Derived.Laws.MakeOwn
import Derived.Laws.OwnMore
import Derived.Deep.OwnRows
import Derived.Tactics
import Derived.Lib.ConvBytes
import Derived.Laws.Slices
import Derived.WalkKit
import Derived.KernelRfl
import Derived.RowKit3
import Derived.Deep.LoopGhost
import Derived.Deep.QuietTactic
import Derived.BigQuiet
import Derived.WideLaws
import Derived.Deep.DeepCutAuto
import Derived.Deep.CutBlock
import Derived.Deep.RegionHeld3
import Derived.Laws.Rows
import Derived.Lib.AppendStr
import Derived.ArgAppend
import Derived.Laws.IdiomCopy
import Derived.OrdersHeld
import Derived.Laws.BitsLemmas
import Derived.RowKit
import Derived.Test.YtgfmplhpoblleaaWWords
import Derived.Test.YtgfmplhpoblleaaWLast
import Derived.Test.YtgfmplhpoblleaaWTab
import Derived.Test.YtgfmplhpoblleaaWFour
import Derived.Test.YtgfmplhpoblleaaWQPut
import Derived.Test.YtgfmplhpoblleaaWApart
import Derived.Test.YtgfmplhpoblleaaWArr
import Derived.Test.YtgfmplhpoblleaaWZeros
import Derived.Test.YtgfmplhpoblleaaWFoot
import Derived.Test.YtgfmplhpoblleaaWKept
import Derived.Test.YtgfmplhpoblleaaWShare
import Derived.Test.YtgfmplhpoblleaaWN
import Derived.Test.YtgfmplhpoblleaaWFootNe
import Derived.Test.YtgfmplhpoblleaaWAt
import Derived.Test.YtgfmplhpoblleaaWEqStruct
import Derived.Test.YtgfmplhpoblleaaWRepsOne
import Derived.Test.YtgfmplhpoblleaaWInv
import Derived.Test.YtgfmplhpoblleaaWInvWords
import Derived.Test.YtgfmplhpoblleaaWGuard
import Derived.Test.YtgfmplhpoblleaaWNEv
import Derived.Test.YtgfmplhpoblleaaWMore
import Derived.Test.YtgfmplhpoblleaaRankD
import Derived.Test.YtgfmplhpoblleaaPRankx
namespace Go.Proofs.Ytgfmplhpoblleaa.PRankL
open Go.RowKit Go.Proofs.YtgfmplhpoblleaaW.PrintWords Go.Proofs.YtgfmplhpoblleaaW.PrintLast Go.Proofs.YtgfmplhpoblleaaW.PrintMore Go.Proofs.Ytgfmplhpoblleaa.RankD Go.Proofs.Ytgfmplhpoblleaa.PRank
attribute [local go_sem] max2_int min2_int max_two min_two max_three min_three max_four min_four   -- for this text's walks alone
set_option linter.unusedVariables false
set_option linter.unusedSimpArgs false



theorem info35 : (Try.prog.info? 35).map (fun i => (i.zero, i.size, i.bytes)) = some (some (.slice none 0 0), 1, 24) := by kernel_rfl
-- the values' own types
/-! #### struct type 33 -/
def rd_L4 (xs : List (List S33)) (i : Int) : (List S33) := xs.getD i.toNat ([] : List S33)
theorem at_L4 {w : World} {A : Option Addr} {n : Nat} {xs : List (List S33)} (h : Kd.C (Kd.slice 33 k33) w A n xs) (i : Int) (h0 : 0 ≤ i) (h1 : i < n) : ∃ ad A0 c0, A = some ad ∧ w.cell? (ad.add i.toNat) = some (.slice A0 (rd_L4 xs i).length c0) ∧ (rd_L4 xs i).length ≤ c0 ∧ k33.C w A0 (rd_L4 xs i).length (rd_L4 xs i) := by
  obtain ⟨ad, c, e, _, hK, hc0⟩ := Kd.C_get h ([] : List S33) i h0 h1
  have hc : ∀ j u, c[j]? = some u → w.cell? (ad.add (i.toNat * 1 + j)) = some u := hc0
  obtain ⟨A0, c0, rfl, l0, g0⟩ := hK
  exact ⟨ad, A0, c0, e, by have hq := hc 0 _ rfl; rwa [Nat.mul_one, Nat.add_zero] at hq, l0, g0⟩

end Go.Proofs.Ytgfmplhpoblleaa.PRankL
