/- What the functions that the law LettersParts reaches compute, and the row of the law (printed by a program of this session). -/
import Derived.Test.YthnphmfjocofhaaProg
import Derived.Below
import Derived.Deep.Draws
import Derived.Deep.AppendLies
import Derived.Maps.AppendAt
import Derived.OwnWalk
import Derived.Laws.BytesArg
import Derived.Laws.MakeOwn
import Derived.Laws.OwnMore
import Derived.Deep.OwnRows
import Derived.Tactics
import Derived.Lib.ConvBytes
import Derived.Laws.Slices
import Derived.WalkKit
import Derived.KernelRfl
import Derived.RowKit3
import Derived.Deep.LoopGhost
import Derived.Deep.QuietTactic
import Derived.BigQuiet
import Derived.WideLaws
import Derived.Deep.DeepCutAuto
import Derived.Deep.CutBlock
import Derived.Deep.RegionHeld3
import Derived.Laws.Rows
import Derived.Lib.AppendStr
import Derived.ArgAppend
import Derived.Laws.IdiomCopy
import Derived.OrdersHeld
import Derived.Laws.BitsLemmas
import Derived.RowKit
import Derived.Test.YthnphmfjocofhaaRunes
import Derived.Test.YthnphmfjocofhaaWWords
import Derived.Test.YthnphmfjocofhaaWLast
import Derived.Test.YthnphmfjocofhaaWTab
import Derived.Test.YthnphmfjocofhaaWFour
import Derived.Test.YthnphmfjocofhaaWQPut
import Derived.Test.YthnphmfjocofhaaWApart
import Derived.Test.YthnphmfjocofhaaWArr
import Derived.Test.YthnphmfjocofhaaWZeros
import Derived.Test.YthnphmfjocofhaaWFoot
import Derived.Test.YthnphmfjocofhaaWKept
import Derived.Test.YthnphmfjocofhaaWShare
import Derived.Test.YthnphmfjocofhaaWN
import Derived.Test.YthnphmfjocofhaaWFootNe
import Derived.Test.YthnphmfjocofhaaWAt
import Derived.Test.YthnphmfjocofhaaWEqStruct
import Derived.Test.YthnphmfjocofhaaWRepsOne
import Derived.Test.YthnphmfjocofhaaWInv
import Derived.Test.YthnphmfjocofhaaWInvWords
import Derived.Test.YthnphmfjocofhaaWGuard
import Derived.Test.YthnphmfjocofhaaWNEv
import Derived.Test.YthnphmfjocofhaaWMore
namespace Go.Proofs.Ythnphmfjocofhaa.ALettersParts
open Go.RowKit Go.Proofs.YthnphmfjocofhaaW.PrintWords Go.Proofs.YthnphmfjocofhaaW.PrintLast Go.Proofs.YthnphmfjocofhaaW.PrintMore
attribute [local go_sem] max2_int min2_int max_two min_two max_three min_three max_four min_four   -- for this text's walks alone
set_option linter.unusedVariables false
set_option linter.unusedSimpArgs false



def errW : Option Int → Value
  | none => .nilIface
  | some c => .iface 0 (.int .i64 c)
theorem errW_none : errW none = .nilIface := rfl
theorem errW_some (c : Int) : errW (some c) = .iface 0 (.int .i64 c) := rfl

-- the values' own types

end Go.Proofs.Ythnphmfjocofhaa.ALettersParts
