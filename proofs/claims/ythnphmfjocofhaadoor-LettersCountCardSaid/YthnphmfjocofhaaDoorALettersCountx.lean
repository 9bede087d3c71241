/- What the functions that the law LettersCount reaches compute, and the row of the law (printed by a program of this session). -/
import Derived.Test.YthnphmfjocofhaaDoorALettersCountx0
import Derived.Test.YthnphmfjocofhaaDoorALettersCountx1
import Derived.Test.YthnphmfjocofhaaDoorALettersCountx2
namespace Go.Proofs.YthnphmfjocofhaaDoor.ALettersCount
open Go.RowKit Go.Proofs.YthnphmfjocofhaaDoorW.PrintWords Go.Proofs.YthnphmfjocofhaaDoorW.PrintLast Go.Proofs.YthnphmfjocofhaaDoorW.PrintMore
attribute [local go_sem] max2_int min2_int max_two min_two max_three min_three max_four min_four   -- for this text's walks alone
set_option linter.unusedVariables false
set_option linter.unusedSimpArgs false

end Go.Proofs.YthnphmfjocofhaaDoor.ALettersCount
