-- Written by fprint.py (wip), by way of the printer's functions; where they are turned, by texts of mine.
import Derived.Test.YtbfmndikbbfcdaaProg
import Derived.Below
import Derived.Deep.Draws
import Derived.Deep.AppendLies
import Derived.Maps.AppendAt
import Derived.OwnWalk
import Derived.Laws.BytesArg
import Derived.Laws.MakeOwn
import Derived.Laws.OwnMore
import Derived.Deep.OwnRows
import Derived.Tactics
import Derived.Lib.ConvBytes
import Derived.Laws.Slices
import Derived.WalkKit
import Derived.KernelRfl
import Derived.RowKit3
import Derived.Deep.LoopGhost
import Derived.Deep.QuietTactic
import Derived.BigQuiet
import Derived.WideLaws
import Derived.Deep.DeepCutAuto
import Derived.Deep.CutBlock
import Derived.Deep.RegionHeld3
import Derived.Laws.Rows
import Derived.Lib.AppendStr
import Derived.ArgAppend
import Derived.Laws.IdiomCopy
import Derived.OrdersHeld
import Derived.Laws.BitsLemmas
import Derived.RowKit
import Derived.Test.YtbfmndikbbfcdaaWWords
import Derived.Test.YtbfmndikbbfcdaaWLast
import Derived.Test.YtbfmndikbbfcdaaWTab
import Derived.Test.YtbfmndikbbfcdaaWFour
import Derived.Test.YtbfmndikbbfcdaaWQPut
import Derived.Test.YtbfmndikbbfcdaaWApart
import Derived.Test.YtbfmndikbbfcdaaWArr
import Derived.Test.YtbfmndikbbfcdaaWZeros
import Derived.Test.YtbfmndikbbfcdaaWFoot
import Derived.Test.YtbfmndikbbfcdaaWKept
import Derived.Test.YtbfmndikbbfcdaaWShare
import Derived.Test.YtbfmndikbbfcdaaWN
import Derived.Test.YtbfmndikbbfcdaaWFootNe
import Derived.Test.YtbfmndikbbfcdaaWAt
import Derived.Test.YtbfmndikbbfcdaaWEqStruct
import Derived.Test.YtbfmndikbbfcdaaWRepsOne
import Derived.Test.YtbfmndikbbfcdaaWInv
import Derived.Test.YtbfmndikbbfcdaaWInvWords
import Derived.Test.YtbfmndikbbfcdaaWGuard
import Derived.Test.YtbfmndikbbfcdaaWNEv
import Derived.Test.YtbfmndikbbfcdaaWMore
import Derived.Test.YtbfmndikbbfcdaaMake0
namespace Go.Proofs.Ytbfmndikbbfcdaa.PPackTakesTexts
open Go.RowKit Go.Proofs.YtbfmndikbbfcdaaW.PrintWords Go.Proofs.YtbfmndikbbfcdaaW.PrintLast Go.Proofs.YtbfmndikbbfcdaaW.PrintMore
attribute [local go_sem] max2_int min2_int max_two min_two max_three min_three max_four min_four   -- for this text's walks alone
set_option linter.unusedVariables false
set_option linter.unusedSimpArgs false



def errW : Option Int → Value
  | none => .nilIface
  | some c => .iface 0 (.int .i64 c)
theorem errW_none : errW none = .nilIface := rfl
theorem errW_some (c : Int) : errW (some c) = .iface 0 (.int .i64 c) := rfl

theorem info5 : (Try.prog.info? 5).map (fun i => (i.zero, i.size, i.bytes)) = some (some (.int .u8 0), 1, 1) := by kernel_rfl
-- the values' own types

end Go.Proofs.Ytbfmndikbbfcdaa.PPackTakesTexts
