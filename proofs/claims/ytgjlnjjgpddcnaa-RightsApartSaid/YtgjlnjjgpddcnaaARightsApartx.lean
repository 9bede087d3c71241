/- What the functions that the law RightsApart reaches compute, and the row of the law (printed by a program of this session). -/
import Derived.Test.YtgjlnjjgpddcnaaARightsApartx0
import Derived.Test.YtgjlnjjgpddcnaaARightsApartx1
import Derived.Test.YtgjlnjjgpddcnaaARightsApartx2
import Derived.Test.YtgjlnjjgpddcnaaARightsApartx3
import Derived.Test.YtgjlnjjgpddcnaaARightsApartx4
namespace Go.Proofs.Ytgjlnjjgpddcnaa.ARightsApart
open Go.RowKit Go.Proofs.YtgjlnjjgpddcnaaW.PrintWords Go.Proofs.YtgjlnjjgpddcnaaW.PrintLast Go.Proofs.YtgjlnjjgpddcnaaW.PrintMore
attribute [local go_sem] max2_int min2_int max_two min_two max_three min_three max_four min_four   -- for this text's walks alone
set_option linter.unusedVariables false
set_option linter.unusedSimpArgs false

end Go.Proofs.Ytgjlnjjgpddcnaa.ARightsApart
