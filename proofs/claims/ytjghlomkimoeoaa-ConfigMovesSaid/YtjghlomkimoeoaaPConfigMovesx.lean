-- Written by fprint.py (wip), by way of the printer's functions; where they are turned, by texts of mine.
import Derived.Test.YtjghlomkimoeoaaPConfigMovesx0
import Derived.Test.YtjghlomkimoeoaaPConfigMovesx1
import Derived.Test.YtjghlomkimoeoaaPConfigMovesx2
import Derived.Test.YtjghlomkimoeoaaPConfigMovesx3
import Derived.Test.YtjghlomkimoeoaaPConfigMovesx4
import Derived.Test.YtjghlomkimoeoaaPConfigMovesx5
import Derived.Test.YtjghlomkimoeoaaPConfigMovesx6
import Derived.Test.YtjghlomkimoeoaaPConfigMovesx7
import Derived.Test.YtjghlomkimoeoaaPConfigMovesx8
import Derived.Test.YtjghlomkimoeoaaPConfigMovesx9
import Derived.Test.YtjghlomkimoeoaaPConfigMovesx10
import Derived.Test.YtjghlomkimoeoaaPConfigMovesx11
import Derived.Test.YtjghlomkimoeoaaPConfigMovesx12
import Derived.Test.YtjghlomkimoeoaaPConfigMovesx13
namespace Go.Proofs.Ytjghlomkimoeoaa.PConfigMoves
open Go.RowKit Go.Proofs.YtjghlomkimoeoaaW.PrintWords Go.Proofs.YtjghlomkimoeoaaW.PrintLast Go.Proofs.YtjghlomkimoeoaaW.PrintMore
attribute [local go_sem] max2_int min2_int max_two min_two max_three min_three max_four min_four   -- for this text's walks alone
set_option linter.unusedVariables false
set_option linter.unusedSimpArgs false

end Go.Proofs.Ytjghlomkimoeoaa.PConfigMoves
