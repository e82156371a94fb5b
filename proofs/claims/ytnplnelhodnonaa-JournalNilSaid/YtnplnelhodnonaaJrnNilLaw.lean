/- JournalNil, walked. -/
import Derived.Test.YtnplnelhodnonaaJrn5
namespace Go.Proofs.Ytnplnelhodnonaa.Dsk
open Go.RowKit Go.Proofs.YtnplnelhodnonaaW.PrintWords Go.Proofs.YtnplnelhodnonaaW.PrintLast Go.Proofs.YtnplnelhodnonaaW.PrintMore Go.Proofs.Ytnplnelhodnonaa.PJournalNil
open Amap Frm
set_option linter.unusedVariables false
set_option linter.unusedSimpArgs false
set_option maxHeartbeats 4000000 in
set_option maxRecDepth 100000 in
theorem jnil_calls (A : Option Addr) (n c : Nat) (w : World) :
    Calls Try.prog 6 #[.slice A n c] w fun e w' => e = .returned (.bool true) ∧ Below w.heap.size w w' := by
  go_enter Try.func6, Try.ntmps6
  go_wp2_with fail
  refine (jawake_calls _).mono ?_
  rintro e w1 ⟨rfl, hb1⟩
  have hb1' := Aside0.mk hb1
  clear hb1
  go_wp2_with (first
    | (go_at_call 29; (with_reducible refine (Open_nil _).mono ?_); rintro e w7 ⟨rfl, hw7⟩; subst w7)
    | (go_at_call 30; (with_reducible refine (jAppend_nil _ _ _ _).mono ?_); rintro e w7 ⟨rfl, hw7⟩; subst w7)
    | (go_at_call 31; (with_reducible refine (Replace_nil _ _ _ _).mono ?_); rintro e w7 ⟨rfl, hw7⟩; subst w7)
    | (go_at_call 32; (with_reducible refine (Records_nil _).mono ?_); rintro e w7 ⟨rfl, hw7⟩; subst w7)
    | fail)
  go_ret
  exact ⟨rfl, below_alloc hb1'.out _⟩
end Go.Proofs.Ytnplnelhodnonaa.Dsk
