/- What the functions that the law RightsMay reaches compute, and the row of the law (printed by a program of this session). -/
import Derived.Test.YtgjlnjjgpddcnaaARightsMayx0
import Derived.Test.YtgjlnjjgpddcnaaARightsMayx1
import Derived.Test.YtgjlnjjgpddcnaaARightsMayx2
namespace Go.Proofs.Ytgjlnjjgpddcnaa.ARightsMay
open Go.RowKit Go.Proofs.YtgjlnjjgpddcnaaW.PrintWords Go.Proofs.YtgjlnjjgpddcnaaW.PrintLast Go.Proofs.YtgjlnjjgpddcnaaW.PrintMore
attribute [local go_sem] max2_int min2_int max_two min_two max_three min_three max_four min_four   -- for this text's walks alone
set_option linter.unusedVariables false
set_option linter.unusedSimpArgs false

end Go.Proofs.Ytgjlnjjgpddcnaa.ARightsMay
