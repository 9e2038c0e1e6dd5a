/-
  No cell of these rows narrows 'for every input' (looked for: loops, veiled, ifaces, maps, wideKeys, modest, calm, conditions, laid).
  DERIVED. THE GIVEN ROWS OF THIS SEAT. 13 by the template 'for every input the law returns true; each argument reads behind the call as it read before'; 0 by the template 'total and deterministic' (their statements: YtgfmplhpoblleaaTotals.lean).
  GIVEN WITH THE SEED: the statements are not yours to turn. If you find one false, say at which input.
  Laid BY PROGRAM, IN A SANDBOX (cutbox-rows.mjs): the forced cells as the released guide's own fill.sh prints them over the translation de9a9a7aeb5e8b09… (all of the seat's roots in one cut). By AI agents, Wed Nov 11 2026. No macro, syntax, notation, axiom, sorry.
-/
import Derived.Test.YtgfmplhpoblleaaChecked
import GoSem.Claim
import GoSem.ClaimJoined
import GoSem.ClaimMapViews
import Derived.JoinedTies
import Derived.KernelRfl
namespace Go.Proofs.Ytgfmplhpoblleaa
/- THE CELL 'sum', in the pinned program and in every row, IS THE sha256 OF THE DUMP (.gsa) THAT YtgfmplhpoblleaaProg.lean LOADS. Nothing in Lean hashes anything: it is a label: what it is worth is what the hold of that sum in a sandbox is worth. -/
noncomputable def Try.pinned : Pinned := { name := "ytgfmplhpoblleaa", sum := "de9a9a7aeb5e8b095bd6a2536622ef99348dc84a1967fb30719ef5139b300b00", checked := Try.checked }
namespace Rows
def none {H : Type} : Left H := { results := [], args := [] }

/-- 'paronymlaw08.HangulParts': WHATEVER THE INPUT: true; the input reads as it did. -/
def hangulPartsSpec : ChangeSpec := { name := "hangulParts", fn := fun _ => fun
  | [d] => { results := [.lit (.bool true)], args := [d] }
  | _ => none }
def hangulPartsRow : OpenClaim := { program := "ytgfmplhpoblleaa", sum := "de9a9a7aeb5e8b095bd6a2536622ef99348dc84a1967fb30719ef5139b300b00", func := "paronym/paronymlaw08.HangulParts", spec := "hangulParts", apart := false }
def HangulPartsSaid : Prop := hangulPartsRow.holds Try.pinned (OpenSpec.ofChange hangulPartsSpec)

/-- ITS FALSE NEIGHBOUR: 'it returns false'. Refute it at one input. -/
def hangulPartsWrong : ChangeSpec := { name := "hangulParts", fn := fun _ => fun
  | [d] => { results := [.lit (.bool false)], args := [d] }
  | _ => none }
def HangulPartsWrongFalsely : Prop := hangulPartsRow.holds Try.pinned (OpenSpec.ofChange hangulPartsWrong)

/-- 'paronymlaw08.HangulTogether': WHATEVER THE INPUT: true; the input reads as it did. -/
def hangulTogetherSpec : ChangeSpec := { name := "hangulTogether", fn := fun _ => fun
  | [d1, d2] => { results := [.lit (.bool true)], args := [d1, d2] }
  | _ => none }
def hangulTogetherRow : OpenClaim := { program := "ytgfmplhpoblleaa", sum := "de9a9a7aeb5e8b095bd6a2536622ef99348dc84a1967fb30719ef5139b300b00", func := "paronym/paronymlaw08.HangulTogether", spec := "hangulTogether", apart := false }
def HangulTogetherSaid : Prop := hangulTogetherRow.holds Try.pinned (OpenSpec.ofChange hangulTogetherSpec)

/-- ITS FALSE NEIGHBOUR: 'it returns false'. Refute it at one input. -/
def hangulTogetherWrong : ChangeSpec := { name := "hangulTogether", fn := fun _ => fun
  | [d1, d2] => { results := [.lit (.bool false)], args := [d1, d2] }
  | _ => none }
def HangulTogetherWrongFalsely : Prop := hangulTogetherRow.holds Try.pinned (OpenSpec.ofChange hangulTogetherWrong)

/-- 'paronymlaw08.HangulBack': WHATEVER THE INPUT: true; the input reads as it did. -/
def hangulBackSpec : ChangeSpec := { name := "hangulBack", fn := fun _ => fun
  | [d] => { results := [.lit (.bool true)], args := [d] }
  | _ => none }
def hangulBackRow : OpenClaim := { program := "ytgfmplhpoblleaa", sum := "de9a9a7aeb5e8b095bd6a2536622ef99348dc84a1967fb30719ef5139b300b00", func := "paronym/paronymlaw08.HangulBack", spec := "hangulBack", apart := false }
def HangulBackSaid : Prop := hangulBackRow.holds Try.pinned (OpenSpec.ofChange hangulBackSpec)

/-- ITS FALSE NEIGHBOUR: 'it returns false'. Refute it at one input. -/
def hangulBackWrong : ChangeSpec := { name := "hangulBack", fn := fun _ => fun
  | [d] => { results := [.lit (.bool false)], args := [d] }
  | _ => none }
def HangulBackWrongFalsely : Prop := hangulBackRow.holds Try.pinned (OpenSpec.ofChange hangulBackWrong)

/-- 'paronymlaw29.RankCompares': WHATEVER THE INPUT: true; the input reads as it did. -/
def rankComparesSpec : ChangeSpec := { name := "rankCompares", fn := fun _ => fun
  | [d1, d2, d3] => { results := [.lit (.bool true)], args := [d1, d2, d3] }
  | _ => none }
def rankComparesRow : OpenClaim := { program := "ytgfmplhpoblleaa", sum := "de9a9a7aeb5e8b095bd6a2536622ef99348dc84a1967fb30719ef5139b300b00", func := "paronym/paronymlaw29.RankCompares", spec := "rankCompares", unfollowed := true, recurses := true, apart := false }
def RankComparesSaid : Prop := rankComparesRow.holds Try.pinned (OpenSpec.ofChange rankComparesSpec)

/-- ITS FALSE NEIGHBOUR: 'it returns false'. Refute it at one input. -/
def rankComparesWrong : ChangeSpec := { name := "rankCompares", fn := fun _ => fun
  | [d1, d2, d3] => { results := [.lit (.bool false)], args := [d1, d2, d3] }
  | _ => none }
def RankComparesWrongFalsely : Prop := rankComparesRow.holds Try.pinned (OpenSpec.ofChange rankComparesWrong)

/-- 'paronymlaw29.RankSorts': WHATEVER THE INPUT: true; the input reads as it did. -/
def rankSortsSpec : ChangeSpec := { name := "rankSorts", fn := fun _ => fun
  | [d1, d2] => { results := [.lit (.bool true)], args := [d1, d2] }
  | _ => none }
def rankSortsRow : OpenClaim := { program := "ytgfmplhpoblleaa", sum := "de9a9a7aeb5e8b095bd6a2536622ef99348dc84a1967fb30719ef5139b300b00", func := "paronym/paronymlaw29.RankSorts", spec := "rankSorts", unfollowed := true, recurses := true, apart := false }
def RankSortsSaid : Prop := rankSortsRow.holds Try.pinned (OpenSpec.ofChange rankSortsSpec)

/-- ITS FALSE NEIGHBOUR: 'it returns false'. Refute it at one input. -/
def rankSortsWrong : ChangeSpec := { name := "rankSorts", fn := fun _ => fun
  | [d1, d2] => { results := [.lit (.bool false)], args := [d1, d2] }
  | _ => none }
def RankSortsWrongFalsely : Prop := rankSortsRow.holds Try.pinned (OpenSpec.ofChange rankSortsWrong)

/-- 'paronymlaw29.RankMerges': WHATEVER THE INPUT: true; the input reads as it did. -/
def rankMergesSpec : ChangeSpec := { name := "rankMerges", fn := fun _ => fun
  | [d1, d2, d3] => { results := [.lit (.bool true)], args := [d1, d2, d3] }
  | _ => none }
def rankMergesRow : OpenClaim := { program := "ytgfmplhpoblleaa", sum := "de9a9a7aeb5e8b095bd6a2536622ef99348dc84a1967fb30719ef5139b300b00", func := "paronym/paronymlaw29.RankMerges", spec := "rankMerges", unfollowed := true, recurses := true, apart := false }
def RankMergesSaid : Prop := rankMergesRow.holds Try.pinned (OpenSpec.ofChange rankMergesSpec)

/-- ITS FALSE NEIGHBOUR: 'it returns false'. Refute it at one input. -/
def rankMergesWrong : ChangeSpec := { name := "rankMerges", fn := fun _ => fun
  | [d1, d2, d3] => { results := [.lit (.bool false)], args := [d1, d2, d3] }
  | _ => none }
def RankMergesWrongFalsely : Prop := rankMergesRow.holds Try.pinned (OpenSpec.ofChange rankMergesWrong)

/-- 'paronymlaw23.FailGoes': WHATEVER THE INPUT: true; the input reads as it did. -/
def failGoesSpec : ChangeSpec := { name := "failGoes", fn := fun _ => fun
  | [d1, d2, d3] => { results := [.lit (.bool true)], args := [d1, d2, d3] }
  | _ => none }
def failGoesRow : OpenClaim := { program := "ytgfmplhpoblleaa", sum := "de9a9a7aeb5e8b095bd6a2536622ef99348dc84a1967fb30719ef5139b300b00", func := "paronym/paronymlaw23.FailGoes", spec := "failGoes", inPlace := ["slices.overlaps[paronym/trie.edge]"], unfollowed := true, recurses := true, apart := false }
def FailGoesSaid : Prop := failGoesRow.holds Try.pinned (OpenSpec.ofChange failGoesSpec)

/-- ITS FALSE NEIGHBOUR: 'it returns false'. Refute it at one input. -/
def failGoesWrong : ChangeSpec := { name := "failGoes", fn := fun _ => fun
  | [d1, d2, d3] => { results := [.lit (.bool false)], args := [d1, d2, d3] }
  | _ => none }
def FailGoesWrongFalsely : Prop := failGoesRow.holds Try.pinned (OpenSpec.ofChange failGoesWrong)

/-- 'paronymlaw23.FailFew': WHATEVER THE INPUT: true; the input reads as it did. -/
def failFewSpec : ChangeSpec := { name := "failFew", fn := fun _ => fun
  | [d1, d2] => { results := [.lit (.bool true)], args := [d1, d2] }
  | _ => none }
def failFewRow : OpenClaim := { program := "ytgfmplhpoblleaa", sum := "de9a9a7aeb5e8b095bd6a2536622ef99348dc84a1967fb30719ef5139b300b00", func := "paronym/paronymlaw23.FailFew", spec := "failFew", inPlace := ["slices.overlaps[paronym/trie.edge]"], unfollowed := true, recurses := true, apart := false }
def FailFewSaid : Prop := failFewRow.holds Try.pinned (OpenSpec.ofChange failFewSpec)

/-- ITS FALSE NEIGHBOUR: 'it returns false'. Refute it at one input. -/
def failFewWrong : ChangeSpec := { name := "failFew", fn := fun _ => fun
  | [d1, d2] => { results := [.lit (.bool false)], args := [d1, d2] }
  | _ => none }
def FailFewWrongFalsely : Prop := failFewRow.holds Try.pinned (OpenSpec.ofChange failFewWrong)

/-- 'paronymlaw23.FailLinks': WHATEVER THE INPUT: true; the input reads as it did. -/
def failLinksSpec : ChangeSpec := { name := "failLinks", fn := fun _ => fun
  | [d1, d2] => { results := [.lit (.bool true)], args := [d1, d2] }
  | _ => none }
def failLinksRow : OpenClaim := { program := "ytgfmplhpoblleaa", sum := "de9a9a7aeb5e8b095bd6a2536622ef99348dc84a1967fb30719ef5139b300b00", func := "paronym/paronymlaw23.FailLinks", spec := "failLinks", inPlace := ["slices.overlaps[paronym/trie.edge]"], unfollowed := true, recurses := true, apart := false }
def FailLinksSaid : Prop := failLinksRow.holds Try.pinned (OpenSpec.ofChange failLinksSpec)

/-- ITS FALSE NEIGHBOUR: 'it returns false'. Refute it at one input. -/
def failLinksWrong : ChangeSpec := { name := "failLinks", fn := fun _ => fun
  | [d1, d2] => { results := [.lit (.bool false)], args := [d1, d2] }
  | _ => none }
def FailLinksWrongFalsely : Prop := failLinksRow.holds Try.pinned (OpenSpec.ofChange failLinksWrong)

/-- 'paronymlaw24.MatchJoins': WHATEVER THE INPUT: true; the input reads as it did. -/
def matchJoinsSpec : ChangeSpec := { name := "matchJoins", fn := fun _ => fun
  | [d1, d2, d3] => { results := [.lit (.bool true)], args := [d1, d2, d3] }
  | _ => none }
def matchJoinsRow : OpenClaim := { program := "ytgfmplhpoblleaa", sum := "de9a9a7aeb5e8b095bd6a2536622ef99348dc84a1967fb30719ef5139b300b00", func := "paronym/paronymlaw24.MatchJoins", spec := "matchJoins", inPlace := ["slices.overlaps[paronym/trie.edge]"], unfollowed := true, recurses := true, apart := false }
def MatchJoinsSaid : Prop := matchJoinsRow.holds Try.pinned (OpenSpec.ofChange matchJoinsSpec)

/-- ITS FALSE NEIGHBOUR: 'it returns false'. Refute it at one input. -/
def matchJoinsWrong : ChangeSpec := { name := "matchJoins", fn := fun _ => fun
  | [d1, d2, d3] => { results := [.lit (.bool false)], args := [d1, d2, d3] }
  | _ => none }
def MatchJoinsWrongFalsely : Prop := matchJoinsRow.holds Try.pinned (OpenSpec.ofChange matchJoinsWrong)

/-- 'paronymlaw24.MatchStreams': WHATEVER THE INPUT: true; the input reads as it did. -/
def matchStreamsSpec : ChangeSpec := { name := "matchStreams", fn := fun _ => fun
  | [d1, d2, d3] => { results := [.lit (.bool true)], args := [d1, d2, d3] }
  | _ => none }
def matchStreamsRow : OpenClaim := { program := "ytgfmplhpoblleaa", sum := "de9a9a7aeb5e8b095bd6a2536622ef99348dc84a1967fb30719ef5139b300b00", func := "paronym/paronymlaw24.MatchStreams", spec := "matchStreams", inPlace := ["slices.overlaps[paronym/trie.edge]"], unfollowed := true, recurses := true, apart := false }
def MatchStreamsSaid : Prop := matchStreamsRow.holds Try.pinned (OpenSpec.ofChange matchStreamsSpec)

/-- ITS FALSE NEIGHBOUR: 'it returns false'. Refute it at one input. -/
def matchStreamsWrong : ChangeSpec := { name := "matchStreams", fn := fun _ => fun
  | [d1, d2, d3] => { results := [.lit (.bool false)], args := [d1, d2, d3] }
  | _ => none }
def MatchStreamsWrongFalsely : Prop := matchStreamsRow.holds Try.pinned (OpenSpec.ofChange matchStreamsWrong)

/-- 'paronymlaw24.MatchFeeds': WHATEVER THE INPUT: true; the input reads as it did. -/
def matchFeedsSpec : ChangeSpec := { name := "matchFeeds", fn := fun _ => fun
  | [d1, d2] => { results := [.lit (.bool true)], args := [d1, d2] }
  | _ => none }
def matchFeedsRow : OpenClaim := { program := "ytgfmplhpoblleaa", sum := "de9a9a7aeb5e8b095bd6a2536622ef99348dc84a1967fb30719ef5139b300b00", func := "paronym/paronymlaw24.MatchFeeds", spec := "matchFeeds", inPlace := ["slices.overlaps[paronym/trie.edge]"], unfollowed := true, recurses := true, apart := false }
def MatchFeedsSaid : Prop := matchFeedsRow.holds Try.pinned (OpenSpec.ofChange matchFeedsSpec)

/-- ITS FALSE NEIGHBOUR: 'it returns false'. Refute it at one input. -/
def matchFeedsWrong : ChangeSpec := { name := "matchFeeds", fn := fun _ => fun
  | [d1, d2] => { results := [.lit (.bool false)], args := [d1, d2] }
  | _ => none }
def MatchFeedsWrongFalsely : Prop := matchFeedsRow.holds Try.pinned (OpenSpec.ofChange matchFeedsWrong)

/-- 'paronymlaw24.MatchFinds': WHATEVER THE INPUT: true; the input reads as it did. -/
def matchFindsSpec : ChangeSpec := { name := "matchFinds", fn := fun _ => fun
  | [d1, d2] => { results := [.lit (.bool true)], args := [d1, d2] }
  | _ => none }
def matchFindsRow : OpenClaim := { program := "ytgfmplhpoblleaa", sum := "de9a9a7aeb5e8b095bd6a2536622ef99348dc84a1967fb30719ef5139b300b00", func := "paronym/paronymlaw24.MatchFinds", spec := "matchFinds", inPlace := ["slices.overlaps[paronym/trie.edge]"], unfollowed := true, recurses := true, apart := false }
def MatchFindsSaid : Prop := matchFindsRow.holds Try.pinned (OpenSpec.ofChange matchFindsSpec)

/-- ITS FALSE NEIGHBOUR: 'it returns false'. Refute it at one input. -/
def matchFindsWrong : ChangeSpec := { name := "matchFinds", fn := fun _ => fun
  | [d1, d2] => { results := [.lit (.bool false)], args := [d1, d2] }
  | _ => none }
def MatchFindsWrongFalsely : Prop := matchFindsRow.holds Try.pinned (OpenSpec.ofChange matchFindsWrong)

/- THE SECOND FORM. 'bulk': how many values and letters a reading holds, each counted each time it is reached (what is shared counts as often as it is met; a slice's spare places count too). A statement '..UptoSaid' is the law's where the arguments, and the package variables that the reading takes, are together of bulk at most 1048576: NARROWER than '..Said'. Prove '..Said' where nothing that the law and all that it calls make is longer than what came in: it says more and counts as full. Else prove '..UptoSaid'. A law counts once. -/
mutual
def uptoBulk {H : Type} : DataW H → Nat
  | .lit (.string bytes) => bytes.length + 1
  | .lit _ => 1
  | .nil => 1
  | .ptr d => uptoBulk d + 1
  | .slice elems spare => uptoBulkAll elems + uptoBulkAll spare + 1
  | .agg parts => uptoBulkAll parts + 1
  | .iface _ d => uptoBulk d + 1
  | .map entries => uptoBulkEntries entries + 1
  | .held _ => 1
def uptoBulkAll {H : Type} : List (DataW H) → Nat
  | [] => 0
  | d :: r => uptoBulk d + uptoBulkAll r
def uptoBulkEntries {H : Type} : List (Lit × DataW H) → Nat
  | [] => 0
  | x :: r => uptoBulkEntry x + uptoBulkEntries r
def uptoBulkEntry {H : Type} : Lit × DataW H → Nat
  | (.string bytes, d) => bytes.length + uptoBulk d + 1
  | (_, d) => uptoBulk d + 1
 end
def uptoSmall : (H : Type) → List (DataW H) → Bool := fun _ ds => decide (uptoBulkAll ds ≤ 1048576)
def OpenSpec.upto (s : _root_.Go.ChangeSpec) : _root_.Go.OpenSpec := { _root_.Go.OpenSpec.ofChange s with cond := some uptoSmall }

/-- 'paronymlaw08.HangulParts', WHERE WHAT IT READS IS OF BULK AT MOST 1048576: true; the input reads as it did. -/
def hangulPartsUptoRow : OpenClaim := { program := "ytgfmplhpoblleaa", sum := "de9a9a7aeb5e8b095bd6a2536622ef99348dc84a1967fb30719ef5139b300b00", func := "paronym/paronymlaw08.HangulParts", spec := "hangulParts", apart := false, narrowed := true }
def HangulPartsUptoSaid : Prop := hangulPartsUptoRow.holds Try.pinned (OpenSpec.upto hangulPartsSpec)

/-- 'paronymlaw08.HangulTogether', WHERE WHAT IT READS IS OF BULK AT MOST 1048576: true; the input reads as it did. -/
def hangulTogetherUptoRow : OpenClaim := { program := "ytgfmplhpoblleaa", sum := "de9a9a7aeb5e8b095bd6a2536622ef99348dc84a1967fb30719ef5139b300b00", func := "paronym/paronymlaw08.HangulTogether", spec := "hangulTogether", apart := false, narrowed := true }
def HangulTogetherUptoSaid : Prop := hangulTogetherUptoRow.holds Try.pinned (OpenSpec.upto hangulTogetherSpec)

/-- 'paronymlaw08.HangulBack', WHERE WHAT IT READS IS OF BULK AT MOST 1048576: true; the input reads as it did. -/
def hangulBackUptoRow : OpenClaim := { program := "ytgfmplhpoblleaa", sum := "de9a9a7aeb5e8b095bd6a2536622ef99348dc84a1967fb30719ef5139b300b00", func := "paronym/paronymlaw08.HangulBack", spec := "hangulBack", apart := false, narrowed := true }
def HangulBackUptoSaid : Prop := hangulBackUptoRow.holds Try.pinned (OpenSpec.upto hangulBackSpec)

/-- 'paronymlaw29.RankCompares', WHERE WHAT IT READS IS OF BULK AT MOST 1048576: true; the input reads as it did. -/
def rankComparesUptoRow : OpenClaim := { program := "ytgfmplhpoblleaa", sum := "de9a9a7aeb5e8b095bd6a2536622ef99348dc84a1967fb30719ef5139b300b00", func := "paronym/paronymlaw29.RankCompares", spec := "rankCompares", unfollowed := true, recurses := true, apart := false, narrowed := true }
def RankComparesUptoSaid : Prop := rankComparesUptoRow.holds Try.pinned (OpenSpec.upto rankComparesSpec)

/-- 'paronymlaw29.RankSorts', WHERE WHAT IT READS IS OF BULK AT MOST 1048576: true; the input reads as it did. -/
def rankSortsUptoRow : OpenClaim := { program := "ytgfmplhpoblleaa", sum := "de9a9a7aeb5e8b095bd6a2536622ef99348dc84a1967fb30719ef5139b300b00", func := "paronym/paronymlaw29.RankSorts", spec := "rankSorts", unfollowed := true, recurses := true, apart := false, narrowed := true }
def RankSortsUptoSaid : Prop := rankSortsUptoRow.holds Try.pinned (OpenSpec.upto rankSortsSpec)

/-- 'paronymlaw29.RankMerges', WHERE WHAT IT READS IS OF BULK AT MOST 1048576: true; the input reads as it did. -/
def rankMergesUptoRow : OpenClaim := { program := "ytgfmplhpoblleaa", sum := "de9a9a7aeb5e8b095bd6a2536622ef99348dc84a1967fb30719ef5139b300b00", func := "paronym/paronymlaw29.RankMerges", spec := "rankMerges", unfollowed := true, recurses := true, apart := false, narrowed := true }
def RankMergesUptoSaid : Prop := rankMergesUptoRow.holds Try.pinned (OpenSpec.upto rankMergesSpec)

/-- 'paronymlaw23.FailGoes', WHERE WHAT IT READS IS OF BULK AT MOST 1048576: true; the input reads as it did. -/
def failGoesUptoRow : OpenClaim := { program := "ytgfmplhpoblleaa", sum := "de9a9a7aeb5e8b095bd6a2536622ef99348dc84a1967fb30719ef5139b300b00", func := "paronym/paronymlaw23.FailGoes", spec := "failGoes", inPlace := ["slices.overlaps[paronym/trie.edge]"], unfollowed := true, recurses := true, apart := false, narrowed := true }
def FailGoesUptoSaid : Prop := failGoesUptoRow.holds Try.pinned (OpenSpec.upto failGoesSpec)

/-- 'paronymlaw23.FailFew', WHERE WHAT IT READS IS OF BULK AT MOST 1048576: true; the input reads as it did. -/
def failFewUptoRow : OpenClaim := { program := "ytgfmplhpoblleaa", sum := "de9a9a7aeb5e8b095bd6a2536622ef99348dc84a1967fb30719ef5139b300b00", func := "paronym/paronymlaw23.FailFew", spec := "failFew", inPlace := ["slices.overlaps[paronym/trie.edge]"], unfollowed := true, recurses := true, apart := false, narrowed := true }
def FailFewUptoSaid : Prop := failFewUptoRow.holds Try.pinned (OpenSpec.upto failFewSpec)

/-- 'paronymlaw23.FailLinks', WHERE WHAT IT READS IS OF BULK AT MOST 1048576: true; the input reads as it did. -/
def failLinksUptoRow : OpenClaim := { program := "ytgfmplhpoblleaa", sum := "de9a9a7aeb5e8b095bd6a2536622ef99348dc84a1967fb30719ef5139b300b00", func := "paronym/paronymlaw23.FailLinks", spec := "failLinks", inPlace := ["slices.overlaps[paronym/trie.edge]"], unfollowed := true, recurses := true, apart := false, narrowed := true }
def FailLinksUptoSaid : Prop := failLinksUptoRow.holds Try.pinned (OpenSpec.upto failLinksSpec)

/-- 'paronymlaw24.MatchJoins', WHERE WHAT IT READS IS OF BULK AT MOST 1048576: true; the input reads as it did. -/
def matchJoinsUptoRow : OpenClaim := { program := "ytgfmplhpoblleaa", sum := "de9a9a7aeb5e8b095bd6a2536622ef99348dc84a1967fb30719ef5139b300b00", func := "paronym/paronymlaw24.MatchJoins", spec := "matchJoins", inPlace := ["slices.overlaps[paronym/trie.edge]"], unfollowed := true, recurses := true, apart := false, narrowed := true }
def MatchJoinsUptoSaid : Prop := matchJoinsUptoRow.holds Try.pinned (OpenSpec.upto matchJoinsSpec)

/-- 'paronymlaw24.MatchStreams', WHERE WHAT IT READS IS OF BULK AT MOST 1048576: true; the input reads as it did. -/
def matchStreamsUptoRow : OpenClaim := { program := "ytgfmplhpoblleaa", sum := "de9a9a7aeb5e8b095bd6a2536622ef99348dc84a1967fb30719ef5139b300b00", func := "paronym/paronymlaw24.MatchStreams", spec := "matchStreams", inPlace := ["slices.overlaps[paronym/trie.edge]"], unfollowed := true, recurses := true, apart := false, narrowed := true }
def MatchStreamsUptoSaid : Prop := matchStreamsUptoRow.holds Try.pinned (OpenSpec.upto matchStreamsSpec)

/-- 'paronymlaw24.MatchFeeds', WHERE WHAT IT READS IS OF BULK AT MOST 1048576: true; the input reads as it did. -/
def matchFeedsUptoRow : OpenClaim := { program := "ytgfmplhpoblleaa", sum := "de9a9a7aeb5e8b095bd6a2536622ef99348dc84a1967fb30719ef5139b300b00", func := "paronym/paronymlaw24.MatchFeeds", spec := "matchFeeds", inPlace := ["slices.overlaps[paronym/trie.edge]"], unfollowed := true, recurses := true, apart := false, narrowed := true }
def MatchFeedsUptoSaid : Prop := matchFeedsUptoRow.holds Try.pinned (OpenSpec.upto matchFeedsSpec)

/-- 'paronymlaw24.MatchFinds', WHERE WHAT IT READS IS OF BULK AT MOST 1048576: true; the input reads as it did. -/
def matchFindsUptoRow : OpenClaim := { program := "ytgfmplhpoblleaa", sum := "de9a9a7aeb5e8b095bd6a2536622ef99348dc84a1967fb30719ef5139b300b00", func := "paronym/paronymlaw24.MatchFinds", spec := "matchFinds", inPlace := ["slices.overlaps[paronym/trie.edge]"], unfollowed := true, recurses := true, apart := false, narrowed := true }
def MatchFindsUptoSaid : Prop := matchFindsUptoRow.holds Try.pinned (OpenSpec.upto matchFindsSpec)

end Rows
end Go.Proofs.Ytgfmplhpoblleaa
