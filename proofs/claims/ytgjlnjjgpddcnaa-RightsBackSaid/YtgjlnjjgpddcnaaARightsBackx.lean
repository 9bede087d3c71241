/- What the functions that the law RightsBack reaches compute, and the row of the law (printed by a program of this session). -/
import Derived.Test.YtgjlnjjgpddcnaaARightsBackx0
import Derived.Test.YtgjlnjjgpddcnaaARightsBackx1
import Derived.Test.YtgjlnjjgpddcnaaARightsBackx2
import Derived.Test.YtgjlnjjgpddcnaaARightsBackx3
import Derived.Test.YtgjlnjjgpddcnaaARightsBackx4
namespace Go.Proofs.Ytgjlnjjgpddcnaa.ARightsBack
open Go.RowKit Go.Proofs.YtgjlnjjgpddcnaaW.PrintWords Go.Proofs.YtgjlnjjgpddcnaaW.PrintLast Go.Proofs.YtgjlnjjgpddcnaaW.PrintMore
attribute [local go_sem] max2_int min2_int max_two min_two max_three min_three max_four min_four   -- for this text's walks alone
set_option linter.unusedVariables false
set_option linter.unusedSimpArgs false

end Go.Proofs.Ytgjlnjjgpddcnaa.ARightsBack
