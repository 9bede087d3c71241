/- What the functions that the law LettersParts reaches compute, and the row of the law (printed by a program of this session). -/
import Derived.Test.YthnphmfjocofhaaALettersPartsx0
import Derived.Test.YthnphmfjocofhaaALettersPartsx1
namespace Go.Proofs.Ythnphmfjocofhaa.ALettersParts
open Go.RowKit Go.Proofs.YthnphmfjocofhaaW.PrintWords Go.Proofs.YthnphmfjocofhaaW.PrintLast Go.Proofs.YthnphmfjocofhaaW.PrintMore
attribute [local go_sem] max2_int min2_int max_two min_two max_three min_three max_four min_four   -- for this text's walks alone
set_option linter.unusedVariables false
set_option linter.unusedSimpArgs false

end Go.Proofs.Ythnphmfjocofhaa.ALettersParts
