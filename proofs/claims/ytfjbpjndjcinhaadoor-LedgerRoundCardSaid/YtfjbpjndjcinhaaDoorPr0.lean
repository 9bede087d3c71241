/- Words on the types that the functions below are told over. -/
import Derived.Test.YtfjbpjndjcinhaaDoorProg
import Derived.Below
import Derived.Deep.Draws
import Derived.Deep.AppendLies
import Derived.Maps.AppendAt
import Derived.OwnWalk
import Derived.Laws.BytesArg
import Derived.Laws.MakeOwn
import Derived.Laws.OwnMore
import Derived.Deep.OwnRows
import Derived.Tactics
import Derived.Lib.ConvBytes
import Derived.Laws.Slices
import Derived.WalkKit
import Derived.KernelRfl
import Derived.RowKit3
import Derived.Deep.LoopGhost
import Derived.Deep.QuietTactic
import Derived.BigQuiet
import Derived.WideLaws
import Derived.Deep.DeepCutAuto
import Derived.Deep.CutBlock
import Derived.Deep.RegionHeld3
import Derived.Laws.Rows
import Derived.Lib.AppendStr
import Derived.ArgAppend
import Derived.Laws.IdiomCopy
import Derived.OrdersHeld
import Derived.Laws.BitsLemmas
import Derived.RowKit
import Derived.Test.YtfjbpjndjcinhaaDoorWWords
import Derived.Test.YtfjbpjndjcinhaaDoorWLast
import Derived.Test.YtfjbpjndjcinhaaDoorWTab
import Derived.Test.YtfjbpjndjcinhaaDoorWFour
import Derived.Test.YtfjbpjndjcinhaaDoorWQPut
import Derived.Test.YtfjbpjndjcinhaaDoorWApart
import Derived.Test.YtfjbpjndjcinhaaDoorWArr
import Derived.Test.YtfjbpjndjcinhaaDoorWZeros
import Derived.Test.YtfjbpjndjcinhaaDoorWFoot
import Derived.Test.YtfjbpjndjcinhaaDoorWKept
import Derived.Test.YtfjbpjndjcinhaaDoorWShare
import Derived.Test.YtfjbpjndjcinhaaDoorWN
import Derived.Test.YtfjbpjndjcinhaaDoorWFootNe
import Derived.Test.YtfjbpjndjcinhaaDoorWAt
import Derived.Test.YtfjbpjndjcinhaaDoorWEqStruct
import Derived.Test.YtfjbpjndjcinhaaDoorWRepsOne
import Derived.Test.YtfjbpjndjcinhaaDoorWInv
import Derived.Test.YtfjbpjndjcinhaaDoorWInvWords
import Derived.Test.YtfjbpjndjcinhaaDoorWGuard
import Derived.Test.YtfjbpjndjcinhaaDoorWNEv
import Derived.Test.YtfjbpjndjcinhaaDoorWMore
namespace Go.Proofs.YtfjbpjndjcinhaaDoor.Pr
open Go.RowKit Go.Proofs.YtfjbpjndjcinhaaDoorW.PrintWords Go.Proofs.YtfjbpjndjcinhaaDoorW.PrintLast Go.Proofs.YtfjbpjndjcinhaaDoorW.PrintMore
attribute [local go_sem] max2_int min2_int max_two min_two max_three min_three max_four min_four   -- for this text's walks alone
set_option linter.unusedVariables false
set_option linter.unusedSimpArgs false



def errW : Option Int → Value
  | none => .nilIface
  | some c => .iface 0 (.int .i64 c)
theorem errW_none : errW none = .nilIface := rfl
theorem errW_some (c : Int) : errW (some c) = .iface 0 (.int .i64 c) := rfl

theorem info5 : (Tryd.prog.info? 5).map (fun i => (i.zero, i.size, i.bytes)) = some (some (.int .u8 0), 1, 1) := by kernel_rfl
theorem info9 : (Tryd.prog.info? 9).map (fun i => (i.zero, i.size, i.bytes)) = some (some (.string ⟨#[]⟩), 1, 16) := by kernel_rfl
-- the values' own types

end Go.Proofs.YtfjbpjndjcinhaaDoor.Pr
