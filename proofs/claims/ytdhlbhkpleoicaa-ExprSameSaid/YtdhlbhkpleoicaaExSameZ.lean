/- Same, walked: all kinds. -/
import Derived.Test.YtdhlbhkpleoicaaExSameA
import Derived.Test.YtdhlbhkpleoicaaExSameB
import Derived.Test.YtdhlbhkpleoicaaExSameC
import Derived.Test.YtdhlbhkpleoicaaExSameD
namespace Go.Proofs.Ytdhlbhkpleoicaa.Exp
open Go.RowKit Go.Proofs.YtdhlbhkpleoicaaW.PrintWords Go.Proofs.YtdhlbhkpleoicaaW.PrintLast Go.Proofs.YtdhlbhkpleoicaaW.PrintMore Go.Proofs.Ytdhlbhkpleoicaa.PExprSame
open Frm
set_option linter.unusedVariables false
set_option linter.unusedSimpArgs false
attribute [local go_sem] ta_nil_35 ta_35_35 ta_54_35 ta_33_35 ta_47_35 ta_53_35 ta_nil_54 ta_35_54 ta_54_54 ta_33_54 ta_47_54 ta_53_54 ta_nil_33 ta_35_33 ta_54_33 ta_33_33 ta_47_33 ta_53_33 ta_nil_47 ta_35_47 ta_54_47 ta_33_47 ta_47_47 ta_53_47 ta_nil_53 ta_35_53 ta_54_53 ta_33_53 ta_47_53 ta_53_53
theorem Same_calls : ∀ (d : Nat) (a b : Ex), dep a < d → ∀ w : World, Calls Try.prog 13 #[enc a, enc b] w fun e w' => e = .returned (.bool (sameE a b)) ∧ Below w.heap.size w w' := by
  intro d
  induction d with
  | zero => intro a b hd; omega
  | succ d ih =>
    intro a b hd w
    cases a with
    | none => exact Same_none d ih b hd w
    | lit n1 => exact Same_lit d ih n1 b hd w
    | ref s1 => exact Same_ref d ih s1 b hd w
    | not x1 => exact Same_not d ih x1 b hd w
    | neg x1 => exact Same_neg d ih x1 b hd w
    | bin o1 x1 y1 => exact Same_bin d ih o1 x1 y1 b hd w
end Go.Proofs.Ytdhlbhkpleoicaa.Exp
