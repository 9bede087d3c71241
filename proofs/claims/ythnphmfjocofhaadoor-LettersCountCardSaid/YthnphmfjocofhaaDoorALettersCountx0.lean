/- What the functions that the law LettersCount reaches compute, and the row of the law (printed by a program of this session). -/
import Derived.Test.YthnphmfjocofhaaDoorProg
import Derived.Below
import Derived.Deep.Draws
import Derived.Deep.AppendLies
import Derived.Maps.AppendAt
import Derived.OwnWalk
import Derived.Laws.BytesArg
import Derived.Laws.MakeOwn
import Derived.Laws.OwnMore
import Derived.Deep.OwnRows
import Derived.Tactics
import Derived.Lib.ConvBytes
import Derived.Laws.Slices
import Derived.WalkKit
import Derived.KernelRfl
import Derived.RowKit3
import Derived.Deep.LoopGhost
import Derived.Deep.QuietTactic
import Derived.BigQuiet
import Derived.WideLaws
import Derived.Deep.DeepCutAuto
import Derived.Deep.CutBlock
import Derived.Deep.RegionHeld3
import Derived.Laws.Rows
import Derived.Lib.AppendStr
import Derived.ArgAppend
import Derived.Laws.IdiomCopy
import Derived.OrdersHeld
import Derived.Laws.BitsLemmas
import Derived.RowKit
import Derived.Lib.SliceRun
import Derived.Test.YthnphmfjocofhaaDoorRunes
import Derived.Test.YthnphmfjocofhaaDoorWWords
import Derived.Test.YthnphmfjocofhaaDoorWLast
import Derived.Test.YthnphmfjocofhaaDoorWTab
import Derived.Test.YthnphmfjocofhaaDoorWFour
import Derived.Test.YthnphmfjocofhaaDoorWQPut
import Derived.Test.YthnphmfjocofhaaDoorWApart
import Derived.Test.YthnphmfjocofhaaDoorWArr
import Derived.Test.YthnphmfjocofhaaDoorWZeros
import Derived.Test.YthnphmfjocofhaaDoorWFoot
import Derived.Test.YthnphmfjocofhaaDoorWKept
import Derived.Test.YthnphmfjocofhaaDoorWShare
import Derived.Test.YthnphmfjocofhaaDoorWN
import Derived.Test.YthnphmfjocofhaaDoorWFootNe
import Derived.Test.YthnphmfjocofhaaDoorWAt
import Derived.Test.YthnphmfjocofhaaDoorWEqStruct
import Derived.Test.YthnphmfjocofhaaDoorWRepsOne
import Derived.Test.YthnphmfjocofhaaDoorWInv
import Derived.Test.YthnphmfjocofhaaDoorWInvWords
import Derived.Test.YthnphmfjocofhaaDoorWGuard
import Derived.Test.YthnphmfjocofhaaDoorWNEv
import Derived.Test.YthnphmfjocofhaaDoorWMore
namespace Go.Proofs.YthnphmfjocofhaaDoor.ALettersCount
open Go.RowKit Go.Proofs.YthnphmfjocofhaaDoorW.PrintWords Go.Proofs.YthnphmfjocofhaaDoorW.PrintLast Go.Proofs.YthnphmfjocofhaaDoorW.PrintMore
attribute [local go_sem] max2_int min2_int max_two min_two max_three min_three max_four min_four   -- for this text's walks alone
set_option linter.unusedVariables false
set_option linter.unusedSimpArgs false



def errW : Option Int → Value
  | none => .nilIface
  | some c => .iface 0 (.int .i64 c)
theorem errW_none : errW none = .nilIface := rfl
theorem errW_some (c : Int) : errW (some c) = .iface 0 (.int .i64 c) := rfl

theorem info21 : (Tryd.prog.info? 21).map (fun i => (i.zero, i.size, i.bytes)) = some (some (.int .i32 0), 1, 4) := by kernel_rfl
-- the values' own types

end Go.Proofs.YthnphmfjocofhaaDoor.ALettersCount
