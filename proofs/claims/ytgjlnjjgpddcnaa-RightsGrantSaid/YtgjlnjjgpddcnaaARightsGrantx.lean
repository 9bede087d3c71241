/- What the functions that the law RightsGrant reaches compute, and the row of the law (printed by a program of this session). -/
import Derived.Test.YtgjlnjjgpddcnaaARightsGrantx0
import Derived.Test.YtgjlnjjgpddcnaaARightsGrantx1
import Derived.Test.YtgjlnjjgpddcnaaARightsGrantx2
import Derived.Test.YtgjlnjjgpddcnaaARightsGrantx3
import Derived.Test.YtgjlnjjgpddcnaaARightsGrantx4
import Derived.Test.YtgjlnjjgpddcnaaARightsGrantx5
import Derived.Test.YtgjlnjjgpddcnaaARightsGrantx6
import Derived.Test.YtgjlnjjgpddcnaaARightsGrantx7
namespace Go.Proofs.Ytgjlnjjgpddcnaa.ARightsGrant
open Go.RowKit Go.Proofs.YtgjlnjjgpddcnaaW.PrintWords Go.Proofs.YtgjlnjjgpddcnaaW.PrintLast Go.Proofs.YtgjlnjjgpddcnaaW.PrintMore
attribute [local go_sem] max2_int min2_int max_two min_two max_three min_three max_four min_four   -- for this text's walks alone
set_option linter.unusedVariables false
set_option linter.unusedSimpArgs false

end Go.Proofs.Ytgjlnjjgpddcnaa.ARightsGrant
