/- What the functions that the law RightsChildren reaches compute, and the row of the law (printed by a program of this session). -/
import Derived.Test.YtgjlnjjgpddcnaaARightsChildrenx0
import Derived.Test.YtgjlnjjgpddcnaaARightsChildrenx1
import Derived.Test.YtgjlnjjgpddcnaaARightsChildrenx2
namespace Go.Proofs.Ytgjlnjjgpddcnaa.ARightsChildren
open Go.RowKit Go.Proofs.YtgjlnjjgpddcnaaW.PrintWords Go.Proofs.YtgjlnjjgpddcnaaW.PrintLast Go.Proofs.YtgjlnjjgpddcnaaW.PrintMore
attribute [local go_sem] max2_int min2_int max_two min_two max_three min_three max_four min_four   -- for this text's walks alone
set_option linter.unusedVariables false
set_option linter.unusedSimpArgs false

end Go.Proofs.Ytgjlnjjgpddcnaa.ARightsChildren
