-- Written by fprint.py (wip), by way of the printer's functions; where they are turned, by texts of mine.
import Derived.Test.YtjghlomkimoeoaaPConfigAsksx0
import Derived.Test.YtjghlomkimoeoaaPConfigAsksx1
import Derived.Test.YtjghlomkimoeoaaPConfigAsksx2
import Derived.Test.YtjghlomkimoeoaaPConfigAsksx3
import Derived.Test.YtjghlomkimoeoaaPConfigAsksx4
import Derived.Test.YtjghlomkimoeoaaPConfigAsksx5
import Derived.Test.YtjghlomkimoeoaaPConfigAsksx6
import Derived.Test.YtjghlomkimoeoaaPConfigAsksx7
import Derived.Test.YtjghlomkimoeoaaPConfigAsksx8
import Derived.Test.YtjghlomkimoeoaaPConfigAsksx9
import Derived.Test.YtjghlomkimoeoaaPConfigAsksx10
import Derived.Test.YtjghlomkimoeoaaPConfigAsksx11
import Derived.Test.YtjghlomkimoeoaaPConfigAsksx12
import Derived.Test.YtjghlomkimoeoaaPConfigAsksx13
import Derived.Test.YtjghlomkimoeoaaPConfigAsksx14
namespace Go.Proofs.Ytjghlomkimoeoaa.PConfigAsks
open Go.RowKit Go.Proofs.YtjghlomkimoeoaaW.PrintWords Go.Proofs.YtjghlomkimoeoaaW.PrintLast Go.Proofs.YtjghlomkimoeoaaW.PrintMore
attribute [local go_sem] max2_int min2_int max_two min_two max_three min_three max_four min_four   -- for this text's walks alone
set_option linter.unusedVariables false
set_option linter.unusedSimpArgs false

end Go.Proofs.Ytjghlomkimoeoaa.PConfigAsks
