-- Written by fprint.py (wip), by way of the printer's functions; where they are turned, by texts of mine.
import Derived.Test.YtjghlomkimoeoaaProg
import Derived.Below
import Derived.Deep.Draws
import Derived.Deep.AppendLies
import Derived.Maps.AppendAt
import Derived.OwnWalk
import Derived.Laws.BytesArg
import Derived.Laws.MakeOwn
import Derived.Laws.OwnMore
import Derived.Deep.OwnRows
import Derived.Tactics
import Derived.Lib.ConvBytes
import Derived.Laws.Slices
import Derived.WalkKit
import Derived.KernelRfl
import Derived.RowKit3
import Derived.Deep.LoopGhost
import Derived.Deep.QuietTactic
import Derived.BigQuiet
import Derived.WideLaws
import Derived.Deep.DeepCutAuto
import Derived.Deep.CutBlock
import Derived.Deep.RegionHeld3
import Derived.Laws.Rows
import Derived.Lib.AppendStr
import Derived.ArgAppend
import Derived.Laws.IdiomCopy
import Derived.OrdersHeld
import Derived.Laws.BitsLemmas
import Derived.RowKit
import Derived.Test.YtjghlomkimoeoaaWWords
import Derived.Test.YtjghlomkimoeoaaWLast
import Derived.Test.YtjghlomkimoeoaaWTab
import Derived.Test.YtjghlomkimoeoaaWFour
import Derived.Test.YtjghlomkimoeoaaWQPut
import Derived.Test.YtjghlomkimoeoaaWApart
import Derived.Test.YtjghlomkimoeoaaWArr
import Derived.Test.YtjghlomkimoeoaaWZeros
import Derived.Test.YtjghlomkimoeoaaWFoot
import Derived.Test.YtjghlomkimoeoaaWKept
import Derived.Test.YtjghlomkimoeoaaWShare
import Derived.Test.YtjghlomkimoeoaaWN
import Derived.Test.YtjghlomkimoeoaaWFootNe
import Derived.Test.YtjghlomkimoeoaaWAt
import Derived.Test.YtjghlomkimoeoaaWEqStruct
import Derived.Test.YtjghlomkimoeoaaWRepsOne
import Derived.Test.YtjghlomkimoeoaaWInv
import Derived.Test.YtjghlomkimoeoaaWInvWords
import Derived.Test.YtjghlomkimoeoaaWGuard
import Derived.Test.YtjghlomkimoeoaaWNEv
import Derived.Test.YtjghlomkimoeoaaWMore
import Derived.Test.YtjghlomkimoeoaaMapw
namespace Go.Proofs.Ytjghlomkimoeoaa.PTimersNil
open Go.RowKit Go.Proofs.YtjghlomkimoeoaaW.PrintWords Go.Proofs.YtjghlomkimoeoaaW.PrintLast Go.Proofs.YtjghlomkimoeoaaW.PrintMore
attribute [local go_sem] max2_int min2_int max_two min_two max_three min_three max_four min_four   -- for this text's walks alone
set_option linter.unusedVariables false
set_option linter.unusedSimpArgs false



def errW : Option Int → Value
  | none => .nilIface
  | some c => .iface 0 (.int .i64 c)
theorem errW_none : errW none = .nilIface := rfl
theorem errW_some (c : Int) : errW (some c) = .iface 0 (.int .i64 c) := rfl

theorem info5 : (Try.prog.info? 5).map (fun i => (i.zero, i.size, i.bytes)) = some (some (.int .u8 0), 1, 1) := by kernel_rfl
-- the values' own types

end Go.Proofs.Ytjghlomkimoeoaa.PTimersNil
