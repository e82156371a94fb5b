/-
  NARROWER THAN 'FOR EVERY INPUT', by the rows' own cells (each row's printed sentence says how): ExprLogic: loops · ExprMusts: loops · ExprSame: loops.
  DERIVED. THE GIVEN ROWS OF THIS SEAT. 3 by the template 'for every input the law returns true; each argument reads behind the call as it read before'; 0 by the template 'total and deterministic' (their statements: YtdhlbhkpleoicaaTotals.lean).
  GIVEN WITH THE SEED: the statements are not yours to turn. If you find one false, say at which input.
  Laid BY PROGRAM, IN A SANDBOX (cutbox-rows.mjs): the forced cells as the released guide's own fill.sh prints them over the translation 2801d873e5d87295… (all of the seat's roots in one cut). By AI agents, Wed Nov 11 2026. No macro, syntax, notation, axiom, sorry.
-/
import Derived.Test.YtdhlbhkpleoicaaChecked
import GoSem.Claim
import GoSem.ClaimJoined
import GoSem.ClaimMapViews
import Derived.JoinedTies
import Derived.KernelRfl
namespace Go.Proofs.Ytdhlbhkpleoicaa
/- THE CELL 'sum', in the pinned program and in every row, IS THE sha256 OF THE DUMP (.gsa) THAT YtdhlbhkpleoicaaProg.lean LOADS. Nothing in Lean hashes anything: it is a label: what it is worth is what the hold of that sum in a sandbox is worth. -/
noncomputable def Try.pinned : Pinned := { name := "ytdhlbhkpleoicaa", sum := "2801d873e5d87295d3119459a361c6f2a726568f3de520c3ac6e88bb35285611", checked := Try.checked }
namespace Rows
def none {H : Type} : Left H := { results := [], args := [] }

/-- 'tumbrellaw04.ExprLogic': WHATEVER THE INPUT: true; the input reads as it did. -/
def exprLogicSpec : ChangeSpec := { name := "exprLogic", fn := fun _ => fun
  | [d1, d2, d3] => { results := [.lit (.bool true)], args := [d1, d2, d3] }
  | _ => none }
def exprLogicRow : OpenClaim := { program := "ytdhlbhkpleoicaa", sum := "2801d873e5d87295d3119459a361c6f2a726568f3de520c3ac6e88bb35285611", func := "tumbrel/tumbrellaw04.ExprLogic", spec := "exprLogic", unfollowed := true, recurses := true, loops := true, apart := false }
def ExprLogicSaid : Prop := exprLogicRow.holds Try.pinned (OpenSpec.ofChange exprLogicSpec)

/-- ITS FALSE NEIGHBOUR: 'it returns false'. Refute it at one input. -/
def exprLogicWrong : ChangeSpec := { name := "exprLogic", fn := fun _ => fun
  | [d1, d2, d3] => { results := [.lit (.bool false)], args := [d1, d2, d3] }
  | _ => none }
def ExprLogicWrongFalsely : Prop := exprLogicRow.holds Try.pinned (OpenSpec.ofChange exprLogicWrong)

/-- 'tumbrellaw04.ExprMusts': WHATEVER THE INPUT: true; the input reads as it did. -/
def exprMustsSpec : ChangeSpec := { name := "exprMusts", fn := fun _ => fun
  | [d] => { results := [.lit (.bool true)], args := [d] }
  | _ => none }
def exprMustsRow : OpenClaim := { program := "ytdhlbhkpleoicaa", sum := "2801d873e5d87295d3119459a361c6f2a726568f3de520c3ac6e88bb35285611", func := "tumbrel/tumbrellaw04.ExprMusts", spec := "exprMusts", unfollowed := true, recurses := true, loops := true, apart := false }
def ExprMustsSaid : Prop := exprMustsRow.holds Try.pinned (OpenSpec.ofChange exprMustsSpec)

/-- ITS FALSE NEIGHBOUR: 'it returns false'. Refute it at one input. -/
def exprMustsWrong : ChangeSpec := { name := "exprMusts", fn := fun _ => fun
  | [d] => { results := [.lit (.bool false)], args := [d] }
  | _ => none }
def ExprMustsWrongFalsely : Prop := exprMustsRow.holds Try.pinned (OpenSpec.ofChange exprMustsWrong)

/-- 'tumbrellaw04.ExprSame': WHATEVER THE INPUT: true; the input reads as it did. -/
def exprSameSpec : ChangeSpec := { name := "exprSame", fn := fun _ => fun
  | [d1, d2] => { results := [.lit (.bool true)], args := [d1, d2] }
  | _ => none }
def exprSameRow : OpenClaim := { program := "ytdhlbhkpleoicaa", sum := "2801d873e5d87295d3119459a361c6f2a726568f3de520c3ac6e88bb35285611", func := "tumbrel/tumbrellaw04.ExprSame", spec := "exprSame", unfollowed := true, recurses := true, loops := true, apart := false }
def ExprSameSaid : Prop := exprSameRow.holds Try.pinned (OpenSpec.ofChange exprSameSpec)

/-- ITS FALSE NEIGHBOUR: 'it returns false'. Refute it at one input. -/
def exprSameWrong : ChangeSpec := { name := "exprSame", fn := fun _ => fun
  | [d1, d2] => { results := [.lit (.bool false)], args := [d1, d2] }
  | _ => none }
def ExprSameWrongFalsely : Prop := exprSameRow.holds Try.pinned (OpenSpec.ofChange exprSameWrong)

/- THE SECOND FORM. 'bulk': how many values and letters a reading holds, each counted each time it is reached (what is shared counts as often as it is met; a slice's spare places count too). A statement '..UptoSaid' is the law's where the arguments, and the package variables that the reading takes, are together of bulk at most 1048576: NARROWER than '..Said'. Prove '..Said' where nothing that the law and all that it calls make is longer than what came in: it says more and counts as full. Else prove '..UptoSaid'. A law counts once. -/
mutual
def uptoBulk {H : Type} : DataW H → Nat
  | .lit (.string bytes) => bytes.length + 1
  | .lit _ => 1
  | .nil => 1
  | .ptr d => uptoBulk d + 1
  | .slice elems spare => uptoBulkAll elems + uptoBulkAll spare + 1
  | .agg parts => uptoBulkAll parts + 1
  | .iface _ d => uptoBulk d + 1
  | .map entries => uptoBulkEntries entries + 1
  | .held _ => 1
def uptoBulkAll {H : Type} : List (DataW H) → Nat
  | [] => 0
  | d :: r => uptoBulk d + uptoBulkAll r
def uptoBulkEntries {H : Type} : List (Lit × DataW H) → Nat
  | [] => 0
  | x :: r => uptoBulkEntry x + uptoBulkEntries r
def uptoBulkEntry {H : Type} : Lit × DataW H → Nat
  | (.string bytes, d) => bytes.length + uptoBulk d + 1
  | (_, d) => uptoBulk d + 1
 end
def uptoSmall : (H : Type) → List (DataW H) → Bool := fun _ ds => decide (uptoBulkAll ds ≤ 1048576)
def OpenSpec.upto (s : _root_.Go.ChangeSpec) : _root_.Go.OpenSpec := { _root_.Go.OpenSpec.ofChange s with cond := some uptoSmall }

/-- 'tumbrellaw04.ExprLogic', WHERE WHAT IT READS IS OF BULK AT MOST 1048576: true; the input reads as it did. -/
def exprLogicUptoRow : OpenClaim := { program := "ytdhlbhkpleoicaa", sum := "2801d873e5d87295d3119459a361c6f2a726568f3de520c3ac6e88bb35285611", func := "tumbrel/tumbrellaw04.ExprLogic", spec := "exprLogic", unfollowed := true, recurses := true, loops := true, apart := false, narrowed := true }
def ExprLogicUptoSaid : Prop := exprLogicUptoRow.holds Try.pinned (OpenSpec.upto exprLogicSpec)

/-- 'tumbrellaw04.ExprMusts', WHERE WHAT IT READS IS OF BULK AT MOST 1048576: true; the input reads as it did. -/
def exprMustsUptoRow : OpenClaim := { program := "ytdhlbhkpleoicaa", sum := "2801d873e5d87295d3119459a361c6f2a726568f3de520c3ac6e88bb35285611", func := "tumbrel/tumbrellaw04.ExprMusts", spec := "exprMusts", unfollowed := true, recurses := true, loops := true, apart := false, narrowed := true }
def ExprMustsUptoSaid : Prop := exprMustsUptoRow.holds Try.pinned (OpenSpec.upto exprMustsSpec)

/-- 'tumbrellaw04.ExprSame', WHERE WHAT IT READS IS OF BULK AT MOST 1048576: true; the input reads as it did. -/
def exprSameUptoRow : OpenClaim := { program := "ytdhlbhkpleoicaa", sum := "2801d873e5d87295d3119459a361c6f2a726568f3de520c3ac6e88bb35285611", func := "tumbrel/tumbrellaw04.ExprSame", spec := "exprSame", unfollowed := true, recurses := true, loops := true, apart := false, narrowed := true }
def ExprSameUptoSaid : Prop := exprSameUptoRow.holds Try.pinned (OpenSpec.upto exprSameSpec)

end Rows
end Go.Proofs.Ytdhlbhkpleoicaa
