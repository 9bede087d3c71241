/- What the functions that the law LettersCut reaches compute, and the row of the law (printed by a program of this session). -/
import Derived.Test.YthnphmfjocofhaaALettersCutx0
import Derived.Test.YthnphmfjocofhaaALettersCutx1
import Derived.Test.YthnphmfjocofhaaALettersCutx2
namespace Go.Proofs.Ythnphmfjocofhaa.ALettersCut
open Go.RowKit Go.Proofs.YthnphmfjocofhaaW.PrintWords Go.Proofs.YthnphmfjocofhaaW.PrintLast Go.Proofs.YthnphmfjocofhaaW.PrintMore
attribute [local go_sem] max2_int min2_int max_two min_two max_three min_three max_four min_four   -- for this text's walks alone
set_option linter.unusedVariables false
set_option linter.unusedSimpArgs false

end Go.Proofs.Ythnphmfjocofhaa.ALettersCut
