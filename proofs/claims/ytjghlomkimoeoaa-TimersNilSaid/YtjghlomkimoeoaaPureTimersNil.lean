/- TimersNil: the plain law. -/
import Derived.Test.YtjghlomkimoeoaaPTimersNilx1
namespace Go.Proofs.Ytjghlomkimoeoaa.Pure
open Go.RowKit Go.Proofs.Ytjghlomkimoeoaa.PTimersNil Go.Proofs.YtjghlomkimoeoaaW.PrintWords Go.Proofs.YtjghlomkimoeoaaW.PrintLast

theorem TimersNil : tumbrellaw16_TimersNil.Pure := by
  intro _ _ _ _
  rfl

end Go.Proofs.Ytjghlomkimoeoaa.Pure
