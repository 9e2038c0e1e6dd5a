-- printed by the kit's print.py over several roots (printroots.sh): no hand has typed this
import Derived.Test.YtgfmplhpoblleaaPRankx0
import Derived.Test.YtgfmplhpoblleaaPRankx1
import Derived.Test.YtgfmplhpoblleaaPRankx2
import Derived.Test.YtgfmplhpoblleaaPRankx3
import Derived.Test.YtgfmplhpoblleaaPRankx4
import Derived.Test.YtgfmplhpoblleaaPRankx5
namespace Go.Proofs.Ytgfmplhpoblleaa.PRank
open Go.RowKit Go.Proofs.YtgfmplhpoblleaaW.PrintWords Go.Proofs.YtgfmplhpoblleaaW.PrintLast Go.Proofs.YtgfmplhpoblleaaW.PrintMore
attribute [local go_sem] max2_int min2_int max_two min_two max_three min_three max_four min_four   -- for this text's walks alone
set_option linter.unusedVariables false
set_option linter.unusedSimpArgs false

end Go.Proofs.Ytgfmplhpoblleaa.PRank
