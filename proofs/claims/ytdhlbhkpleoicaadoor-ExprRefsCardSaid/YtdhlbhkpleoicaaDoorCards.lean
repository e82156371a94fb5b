/-
  DERIVED. GIVEN WITH THE SEED: THE CARDS: each row of YtdhlbhkpleoicaaDoorRows.lean that lists a variable, with what it lists TIED to the program's text (the seventh form; the later family's looks); each row that meets fmt, with fmt's text TOLD by the authors' own Lean function (tested against real Go, not proved from fmt's source: count such statements apart). THE CARD IS WHAT COUNTS. Prove the row's statement (the work); the ties are given (YtdhlbhkpleoicaaDoorTie.lean); close each card by the builder's one call (the guide's Derived/Test/ToyasCard.lean, 'card_holds'). Laid BY PROGRAM, IN A SANDBOX (cutbox-door.mjs). By AI agents, Wed Nov 11 2026. No macro, syntax, notation, axiom, sorry.
-/
import Derived.Test.YtdhlbhkpleoicaaDoorRows
import GoSem.ClaimSeven
namespace Go.Proofs.YtdhlbhkpleoicaaDoor
namespace Rows

/-- THE TIED CARD OF 'tumbrellaw04.ExprEvals'. -/
def exprEvalsCard : Claim7 := { stood := { row := exprEvalsRow, standIns := [], harness := (true, "23246a7bac34f2c9db65df11a5e03a154869bc3174abe9b36f08d7aa60bc9798"), looks := true }, kinds := [], alts := [], laidByText := true, laidKinds := [.data, .pinned], laidTests := true, laidLooks := .later }
def ExprEvalsCardSaid : Prop := Claim7.holds Tryd.pinned (.plain (OpenSpec.ofChange exprEvalsSpec)) exprEvalsCard

/-- THE TIED CARD OF 'tumbrellaw04.ExprForms'. -/
def exprFormsCard : Claim7 := { stood := { row := exprFormsRow, standIns := [], harness := (true, "23246a7bac34f2c9db65df11a5e03a154869bc3174abe9b36f08d7aa60bc9798"), looks := true }, kinds := [], alts := [], laidByText := true, laidKinds := [.data, .pinned], laidTests := true, laidLooks := .later }
def ExprFormsCardSaid : Prop := Claim7.holds Tryd.pinned (.plain (OpenSpec.ofChange exprFormsSpec)) exprFormsCard

/-- THE TIED CARD OF 'tumbrellaw04.ExprRefs'. -/
def exprRefsCard : Claim7 := { stood := { row := exprRefsRow, standIns := [], harness := (true, "23246a7bac34f2c9db65df11a5e03a154869bc3174abe9b36f08d7aa60bc9798"), looks := true }, kinds := [], alts := [], laidByText := true, laidKinds := [.data, .pinned], laidTests := true, laidLooks := .later }
def ExprRefsCardSaid : Prop := Claim7.holds Tryd.pinned (.plain (OpenSpec.ofChange exprRefsSpec)) exprRefsCard

/-- THE SECOND FORM's CARD OF 'tumbrellaw04.ExprEvals'. -/
def exprEvalsUptoCard : Claim7 := { stood := { row := exprEvalsUptoRow, standIns := [], harness := (true, "23246a7bac34f2c9db65df11a5e03a154869bc3174abe9b36f08d7aa60bc9798"), looks := true }, kinds := [], alts := [], laidByText := true, laidKinds := [.data, .pinned], laidTests := true, laidLooks := .later }
def ExprEvalsUptoCardSaid : Prop := Claim7.holds Tryd.pinned (.plain (OpenSpec.upto exprEvalsSpec)) exprEvalsUptoCard

/-- THE SECOND FORM's CARD OF 'tumbrellaw04.ExprForms'. -/
def exprFormsUptoCard : Claim7 := { stood := { row := exprFormsUptoRow, standIns := [], harness := (true, "23246a7bac34f2c9db65df11a5e03a154869bc3174abe9b36f08d7aa60bc9798"), looks := true }, kinds := [], alts := [], laidByText := true, laidKinds := [.data, .pinned], laidTests := true, laidLooks := .later }
def ExprFormsUptoCardSaid : Prop := Claim7.holds Tryd.pinned (.plain (OpenSpec.upto exprFormsSpec)) exprFormsUptoCard

/-- THE SECOND FORM's CARD OF 'tumbrellaw04.ExprRefs'. -/
def exprRefsUptoCard : Claim7 := { stood := { row := exprRefsUptoRow, standIns := [], harness := (true, "23246a7bac34f2c9db65df11a5e03a154869bc3174abe9b36f08d7aa60bc9798"), looks := true }, kinds := [], alts := [], laidByText := true, laidKinds := [.data, .pinned], laidTests := true, laidLooks := .later }
def ExprRefsUptoCardSaid : Prop := Claim7.holds Tryd.pinned (.plain (OpenSpec.upto exprRefsSpec)) exprRefsUptoCard
end Rows
end Go.Proofs.YtdhlbhkpleoicaaDoor
