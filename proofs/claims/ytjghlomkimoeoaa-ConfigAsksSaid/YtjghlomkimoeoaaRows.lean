/-
  NARROWER THAN 'FOR EVERY INPUT', by the rows' own cells (each row's printed sentence says how): TreeMeets: loops · ConfigStays: loops.
  DERIVED. THE GIVEN ROWS OF THIS SEAT. 11 by the template 'for every input the law returns true; each argument reads behind the call as it read before'; 0 by the template 'total and deterministic' (their statements: YtjghlomkimoeoaaTotals.lean).
  GIVEN WITH THE SEED: the statements are not yours to turn. If you find one false, say at which input.
  Laid BY PROGRAM, IN A SANDBOX (cutbox-rows.mjs): the forced cells as the released guide's own fill.sh prints them over the translation ef68eb791cee6bd7… (all of the seat's roots in one cut). By AI agents, Wed Nov 11 2026. No macro, syntax, notation, axiom, sorry.
-/
import Derived.Test.YtjghlomkimoeoaaChecked
import GoSem.Claim
import GoSem.ClaimJoined
import GoSem.ClaimMapViews
import Derived.JoinedTies
import Derived.KernelRfl
namespace Go.Proofs.Ytjghlomkimoeoaa
/- THE CELL 'sum', in the pinned program and in every row, IS THE sha256 OF THE DUMP (.gsa) THAT YtjghlomkimoeoaaProg.lean LOADS. Nothing in Lean hashes anything: it is a label: what it is worth is what the hold of that sum in a sandbox is worth. -/
noncomputable def Try.pinned : Pinned := { name := "ytjghlomkimoeoaa", sum := "ef68eb791cee6bd778554a165e3629e5faa34216abe32c56ebb723ea17713a88", checked := Try.checked }
namespace Rows
def none {H : Type} : Left H := { results := [], args := [] }

/-- 'tumbrellaw16.TimersDelays': WHATEVER THE INPUT: true; the input reads as it did. -/
def timersDelaysSpec : ChangeSpec := { name := "timersDelays", fn := fun _ => fun
  | [d] => { results := [.lit (.bool true)], args := [d] }
  | _ => none }
def timersDelaysRow : OpenClaim := { program := "ytjghlomkimoeoaa", sum := "ef68eb791cee6bd778554a165e3629e5faa34216abe32c56ebb723ea17713a88", func := "tumbrel/tumbrellaw16.TimersDelays", spec := "timersDelays", plainKeys := false, apart := false }
def TimersDelaysSaid : Prop := timersDelaysRow.holds Try.pinned (OpenSpec.ofChange timersDelaysSpec)

/-- ITS FALSE NEIGHBOUR: 'it returns false'. Refute it at one input. -/
def timersDelaysWrong : ChangeSpec := { name := "timersDelays", fn := fun _ => fun
  | [d] => { results := [.lit (.bool false)], args := [d] }
  | _ => none }
def TimersDelaysWrongFalsely : Prop := timersDelaysRow.holds Try.pinned (OpenSpec.ofChange timersDelaysWrong)

/-- 'tumbrellaw17.LinksKeep': WHATEVER THE INPUT: true; the input reads as it did. -/
def linksKeepSpec : ChangeSpec := { name := "linksKeep", fn := fun _ => fun
  | [d1, d2] => { results := [.lit (.bool true)], args := [d1, d2] }
  | _ => none }
def linksKeepRow : OpenClaim := { program := "ytjghlomkimoeoaa", sum := "ef68eb791cee6bd778554a165e3629e5faa34216abe32c56ebb723ea17713a88", func := "tumbrel/tumbrellaw17.LinksKeep", spec := "linksKeep", plainKeys := false, apart := false }
def LinksKeepSaid : Prop := linksKeepRow.holds Try.pinned (OpenSpec.ofChange linksKeepSpec)

/-- ITS FALSE NEIGHBOUR: 'it returns false'. Refute it at one input. -/
def linksKeepWrong : ChangeSpec := { name := "linksKeep", fn := fun _ => fun
  | [d1, d2] => { results := [.lit (.bool false)], args := [d1, d2] }
  | _ => none }
def LinksKeepWrongFalsely : Prop := linksKeepRow.holds Try.pinned (OpenSpec.ofChange linksKeepWrong)

/-- 'tumbrellaw09.TreeMeets': WHATEVER THE INPUT: true; the input reads as it did. -/
def treeMeetsSpec : ChangeSpec := { name := "treeMeets", fn := fun _ => fun
  | [d1, d2, d3] => { results := [.lit (.bool true)], args := [d1, d2, d3] }
  | _ => none }
def treeMeetsRow : OpenClaim := { program := "ytjghlomkimoeoaa", sum := "ef68eb791cee6bd778554a165e3629e5faa34216abe32c56ebb723ea17713a88", func := "tumbrel/tumbrellaw09.TreeMeets", spec := "treeMeets", unfollowed := true, recurses := true, loops := true, plainKeys := false, apart := false }
def TreeMeetsSaid : Prop := treeMeetsRow.holds Try.pinned (OpenSpec.ofChange treeMeetsSpec)

/-- ITS FALSE NEIGHBOUR: 'it returns false'. Refute it at one input. -/
def treeMeetsWrong : ChangeSpec := { name := "treeMeets", fn := fun _ => fun
  | [d1, d2, d3] => { results := [.lit (.bool false)], args := [d1, d2, d3] }
  | _ => none }
def TreeMeetsWrongFalsely : Prop := treeMeetsRow.holds Try.pinned (OpenSpec.ofChange treeMeetsWrong)

/-- 'tumbrellaw17.LinksFull': WHATEVER THE INPUT: true; the input reads as it did. -/
def linksFullSpec : ChangeSpec := { name := "linksFull", fn := fun _ => fun
  | [d1, d2] => { results := [.lit (.bool true)], args := [d1, d2] }
  | _ => none }
def linksFullRow : OpenClaim := { program := "ytjghlomkimoeoaa", sum := "ef68eb791cee6bd778554a165e3629e5faa34216abe32c56ebb723ea17713a88", func := "tumbrel/tumbrellaw17.LinksFull", spec := "linksFull", plainKeys := false, apart := false }
def LinksFullSaid : Prop := linksFullRow.holds Try.pinned (OpenSpec.ofChange linksFullSpec)

/-- ITS FALSE NEIGHBOUR: 'it returns false'. Refute it at one input. -/
def linksFullWrong : ChangeSpec := { name := "linksFull", fn := fun _ => fun
  | [d1, d2] => { results := [.lit (.bool false)], args := [d1, d2] }
  | _ => none }
def LinksFullWrongFalsely : Prop := linksFullRow.holds Try.pinned (OpenSpec.ofChange linksFullWrong)

/-- 'tumbrellaw17.LinksPlay': WHATEVER THE INPUT: true; the input reads as it did. -/
def linksPlaySpec : ChangeSpec := { name := "linksPlay", fn := fun _ => fun
  | [d1, d2] => { results := [.lit (.bool true)], args := [d1, d2] }
  | _ => none }
def linksPlayRow : OpenClaim := { program := "ytjghlomkimoeoaa", sum := "ef68eb791cee6bd778554a165e3629e5faa34216abe32c56ebb723ea17713a88", func := "tumbrel/tumbrellaw17.LinksPlay", spec := "linksPlay", plainKeys := false, apart := false }
def LinksPlaySaid : Prop := linksPlayRow.holds Try.pinned (OpenSpec.ofChange linksPlaySpec)

/-- ITS FALSE NEIGHBOUR: 'it returns false'. Refute it at one input. -/
def linksPlayWrong : ChangeSpec := { name := "linksPlay", fn := fun _ => fun
  | [d1, d2] => { results := [.lit (.bool false)], args := [d1, d2] }
  | _ => none }
def LinksPlayWrongFalsely : Prop := linksPlayRow.holds Try.pinned (OpenSpec.ofChange linksPlayWrong)

/-- 'tumbrellaw17.LinksNil': WHATEVER THE INPUT: true; the input reads as it did. -/
def linksNilSpec : ChangeSpec := { name := "linksNil", fn := fun _ => fun
  | [d] => { results := [.lit (.bool true)], args := [d] }
  | _ => none }
def linksNilRow : OpenClaim := { program := "ytjghlomkimoeoaa", sum := "ef68eb791cee6bd778554a165e3629e5faa34216abe32c56ebb723ea17713a88", func := "tumbrel/tumbrellaw17.LinksNil", spec := "linksNil", plainKeys := false, apart := false }
def LinksNilSaid : Prop := linksNilRow.holds Try.pinned (OpenSpec.ofChange linksNilSpec)

/-- ITS FALSE NEIGHBOUR: 'it returns false'. Refute it at one input. -/
def linksNilWrong : ChangeSpec := { name := "linksNil", fn := fun _ => fun
  | [d] => { results := [.lit (.bool false)], args := [d] }
  | _ => none }
def LinksNilWrongFalsely : Prop := linksNilRow.holds Try.pinned (OpenSpec.ofChange linksNilWrong)

/-- 'tumbrellaw10.ConfigAsks': WHATEVER THE INPUT: true; the input reads as it did. -/
def configAsksSpec : ChangeSpec := { name := "configAsks", fn := fun _ => fun
  | [d1, d2, d3, d4] => { results := [.lit (.bool true)], args := [d1, d2, d3, d4] }
  | _ => none }
def configAsksRow : OpenClaim := { program := "ytjghlomkimoeoaa", sum := "ef68eb791cee6bd778554a165e3629e5faa34216abe32c56ebb723ea17713a88", func := "tumbrel/tumbrellaw10.ConfigAsks", spec := "configAsks", unfollowed := true, recurses := true, plainKeys := false, apart := false }
def ConfigAsksSaid : Prop := configAsksRow.holds Try.pinned (OpenSpec.ofChange configAsksSpec)

/-- ITS FALSE NEIGHBOUR: 'it returns false'. Refute it at one input. -/
def configAsksWrong : ChangeSpec := { name := "configAsks", fn := fun _ => fun
  | [d1, d2, d3, d4] => { results := [.lit (.bool false)], args := [d1, d2, d3, d4] }
  | _ => none }
def ConfigAsksWrongFalsely : Prop := configAsksRow.holds Try.pinned (OpenSpec.ofChange configAsksWrong)

/-- 'tumbrellaw10.ConfigMoves': WHATEVER THE INPUT: true; the input reads as it did. -/
def configMovesSpec : ChangeSpec := { name := "configMoves", fn := fun _ => fun
  | [d1, d2, d3, d4] => { results := [.lit (.bool true)], args := [d1, d2, d3, d4] }
  | _ => none }
def configMovesRow : OpenClaim := { program := "ytjghlomkimoeoaa", sum := "ef68eb791cee6bd778554a165e3629e5faa34216abe32c56ebb723ea17713a88", func := "tumbrel/tumbrellaw10.ConfigMoves", spec := "configMoves", unfollowed := true, recurses := true, plainKeys := false, apart := false }
def ConfigMovesSaid : Prop := configMovesRow.holds Try.pinned (OpenSpec.ofChange configMovesSpec)

/-- ITS FALSE NEIGHBOUR: 'it returns false'. Refute it at one input. -/
def configMovesWrong : ChangeSpec := { name := "configMoves", fn := fun _ => fun
  | [d1, d2, d3, d4] => { results := [.lit (.bool false)], args := [d1, d2, d3, d4] }
  | _ => none }
def ConfigMovesWrongFalsely : Prop := configMovesRow.holds Try.pinned (OpenSpec.ofChange configMovesWrong)

/-- 'tumbrellaw10.ConfigStays': WHATEVER THE INPUT: true; the input reads as it did. -/
def configStaysSpec : ChangeSpec := { name := "configStays", fn := fun _ => fun
  | [d1, d2] => { results := [.lit (.bool true)], args := [d1, d2] }
  | _ => none }
def configStaysRow : OpenClaim := { program := "ytjghlomkimoeoaa", sum := "ef68eb791cee6bd778554a165e3629e5faa34216abe32c56ebb723ea17713a88", func := "tumbrel/tumbrellaw10.ConfigStays", spec := "configStays", unfollowed := true, recurses := true, loops := true, plainKeys := false, apart := false }
def ConfigStaysSaid : Prop := configStaysRow.holds Try.pinned (OpenSpec.ofChange configStaysSpec)

/-- ITS FALSE NEIGHBOUR: 'it returns false'. Refute it at one input. -/
def configStaysWrong : ChangeSpec := { name := "configStays", fn := fun _ => fun
  | [d1, d2] => { results := [.lit (.bool false)], args := [d1, d2] }
  | _ => none }
def ConfigStaysWrongFalsely : Prop := configStaysRow.holds Try.pinned (OpenSpec.ofChange configStaysWrong)

/-- 'tumbrellaw16.TimersPlay': WHATEVER THE INPUT: true; the input reads as it did. -/
def timersPlaySpec : ChangeSpec := { name := "timersPlay", fn := fun _ => fun
  | [d1, d2] => { results := [.lit (.bool true)], args := [d1, d2] }
  | _ => none }
def timersPlayRow : OpenClaim := { program := "ytjghlomkimoeoaa", sum := "ef68eb791cee6bd778554a165e3629e5faa34216abe32c56ebb723ea17713a88", func := "tumbrel/tumbrellaw16.TimersPlay", spec := "timersPlay", unfollowed := true, recurses := true, plainKeys := false, apart := false }
def TimersPlaySaid : Prop := timersPlayRow.holds Try.pinned (OpenSpec.ofChange timersPlaySpec)

/-- ITS FALSE NEIGHBOUR: 'it returns false'. Refute it at one input. -/
def timersPlayWrong : ChangeSpec := { name := "timersPlay", fn := fun _ => fun
  | [d1, d2] => { results := [.lit (.bool false)], args := [d1, d2] }
  | _ => none }
def TimersPlayWrongFalsely : Prop := timersPlayRow.holds Try.pinned (OpenSpec.ofChange timersPlayWrong)

/-- 'tumbrellaw16.TimersNil': WHATEVER THE INPUT: true; the input reads as it did. -/
def timersNilSpec : ChangeSpec := { name := "timersNil", fn := fun _ => fun
  | [d1, d2] => { results := [.lit (.bool true)], args := [d1, d2] }
  | _ => none }
def timersNilRow : OpenClaim := { program := "ytjghlomkimoeoaa", sum := "ef68eb791cee6bd778554a165e3629e5faa34216abe32c56ebb723ea17713a88", func := "tumbrel/tumbrellaw16.TimersNil", spec := "timersNil", unfollowed := true, recurses := true, plainKeys := false, apart := false }
def TimersNilSaid : Prop := timersNilRow.holds Try.pinned (OpenSpec.ofChange timersNilSpec)

/-- ITS FALSE NEIGHBOUR: 'it returns false'. Refute it at one input. -/
def timersNilWrong : ChangeSpec := { name := "timersNil", fn := fun _ => fun
  | [d1, d2] => { results := [.lit (.bool false)], args := [d1, d2] }
  | _ => none }
def TimersNilWrongFalsely : Prop := timersNilRow.holds Try.pinned (OpenSpec.ofChange timersNilWrong)

/- THE SECOND FORM. 'bulk': how many values and letters a reading holds, each counted each time it is reached (what is shared counts as often as it is met; a slice's spare places count too). A statement '..UptoSaid' is the law's where the arguments, and the package variables that the reading takes, are together of bulk at most 1048576: NARROWER than '..Said'. Prove '..Said' where nothing that the law and all that it calls make is longer than what came in: it says more and counts as full. Else prove '..UptoSaid'. A law counts once. -/
mutual
def uptoBulk {H : Type} : DataW H → Nat
  | .lit (.string bytes) => bytes.length + 1
  | .lit _ => 1
  | .nil => 1
  | .ptr d => uptoBulk d + 1
  | .slice elems spare => uptoBulkAll elems + uptoBulkAll spare + 1
  | .agg parts => uptoBulkAll parts + 1
  | .iface _ d => uptoBulk d + 1
  | .map entries => uptoBulkEntries entries + 1
  | .held _ => 1
def uptoBulkAll {H : Type} : List (DataW H) → Nat
  | [] => 0
  | d :: r => uptoBulk d + uptoBulkAll r
def uptoBulkEntries {H : Type} : List (Lit × DataW H) → Nat
  | [] => 0
  | x :: r => uptoBulkEntry x + uptoBulkEntries r
def uptoBulkEntry {H : Type} : Lit × DataW H → Nat
  | (.string bytes, d) => bytes.length + uptoBulk d + 1
  | (_, d) => uptoBulk d + 1
 end
def uptoSmall : (H : Type) → List (DataW H) → Bool := fun _ ds => decide (uptoBulkAll ds ≤ 1048576)
def OpenSpec.upto (s : _root_.Go.ChangeSpec) : _root_.Go.OpenSpec := { _root_.Go.OpenSpec.ofChange s with cond := some uptoSmall }

/-- 'tumbrellaw16.TimersDelays', WHERE WHAT IT READS IS OF BULK AT MOST 1048576: true; the input reads as it did. -/
def timersDelaysUptoRow : OpenClaim := { program := "ytjghlomkimoeoaa", sum := "ef68eb791cee6bd778554a165e3629e5faa34216abe32c56ebb723ea17713a88", func := "tumbrel/tumbrellaw16.TimersDelays", spec := "timersDelays", plainKeys := false, apart := false, narrowed := true }
def TimersDelaysUptoSaid : Prop := timersDelaysUptoRow.holds Try.pinned (OpenSpec.upto timersDelaysSpec)

/-- 'tumbrellaw17.LinksKeep', WHERE WHAT IT READS IS OF BULK AT MOST 1048576: true; the input reads as it did. -/
def linksKeepUptoRow : OpenClaim := { program := "ytjghlomkimoeoaa", sum := "ef68eb791cee6bd778554a165e3629e5faa34216abe32c56ebb723ea17713a88", func := "tumbrel/tumbrellaw17.LinksKeep", spec := "linksKeep", plainKeys := false, apart := false, narrowed := true }
def LinksKeepUptoSaid : Prop := linksKeepUptoRow.holds Try.pinned (OpenSpec.upto linksKeepSpec)

/-- 'tumbrellaw09.TreeMeets', WHERE WHAT IT READS IS OF BULK AT MOST 1048576: true; the input reads as it did. -/
def treeMeetsUptoRow : OpenClaim := { program := "ytjghlomkimoeoaa", sum := "ef68eb791cee6bd778554a165e3629e5faa34216abe32c56ebb723ea17713a88", func := "tumbrel/tumbrellaw09.TreeMeets", spec := "treeMeets", unfollowed := true, recurses := true, loops := true, plainKeys := false, apart := false, narrowed := true }
def TreeMeetsUptoSaid : Prop := treeMeetsUptoRow.holds Try.pinned (OpenSpec.upto treeMeetsSpec)

/-- 'tumbrellaw17.LinksFull', WHERE WHAT IT READS IS OF BULK AT MOST 1048576: true; the input reads as it did. -/
def linksFullUptoRow : OpenClaim := { program := "ytjghlomkimoeoaa", sum := "ef68eb791cee6bd778554a165e3629e5faa34216abe32c56ebb723ea17713a88", func := "tumbrel/tumbrellaw17.LinksFull", spec := "linksFull", plainKeys := false, apart := false, narrowed := true }
def LinksFullUptoSaid : Prop := linksFullUptoRow.holds Try.pinned (OpenSpec.upto linksFullSpec)

/-- 'tumbrellaw17.LinksPlay', WHERE WHAT IT READS IS OF BULK AT MOST 1048576: true; the input reads as it did. -/
def linksPlayUptoRow : OpenClaim := { program := "ytjghlomkimoeoaa", sum := "ef68eb791cee6bd778554a165e3629e5faa34216abe32c56ebb723ea17713a88", func := "tumbrel/tumbrellaw17.LinksPlay", spec := "linksPlay", plainKeys := false, apart := false, narrowed := true }
def LinksPlayUptoSaid : Prop := linksPlayUptoRow.holds Try.pinned (OpenSpec.upto linksPlaySpec)

/-- 'tumbrellaw17.LinksNil', WHERE WHAT IT READS IS OF BULK AT MOST 1048576: true; the input reads as it did. -/
def linksNilUptoRow : OpenClaim := { program := "ytjghlomkimoeoaa", sum := "ef68eb791cee6bd778554a165e3629e5faa34216abe32c56ebb723ea17713a88", func := "tumbrel/tumbrellaw17.LinksNil", spec := "linksNil", plainKeys := false, apart := false, narrowed := true }
def LinksNilUptoSaid : Prop := linksNilUptoRow.holds Try.pinned (OpenSpec.upto linksNilSpec)

/-- 'tumbrellaw10.ConfigAsks', WHERE WHAT IT READS IS OF BULK AT MOST 1048576: true; the input reads as it did. -/
def configAsksUptoRow : OpenClaim := { program := "ytjghlomkimoeoaa", sum := "ef68eb791cee6bd778554a165e3629e5faa34216abe32c56ebb723ea17713a88", func := "tumbrel/tumbrellaw10.ConfigAsks", spec := "configAsks", unfollowed := true, recurses := true, plainKeys := false, apart := false, narrowed := true }
def ConfigAsksUptoSaid : Prop := configAsksUptoRow.holds Try.pinned (OpenSpec.upto configAsksSpec)

/-- 'tumbrellaw10.ConfigMoves', WHERE WHAT IT READS IS OF BULK AT MOST 1048576: true; the input reads as it did. -/
def configMovesUptoRow : OpenClaim := { program := "ytjghlomkimoeoaa", sum := "ef68eb791cee6bd778554a165e3629e5faa34216abe32c56ebb723ea17713a88", func := "tumbrel/tumbrellaw10.ConfigMoves", spec := "configMoves", unfollowed := true, recurses := true, plainKeys := false, apart := false, narrowed := true }
def ConfigMovesUptoSaid : Prop := configMovesUptoRow.holds Try.pinned (OpenSpec.upto configMovesSpec)

/-- 'tumbrellaw10.ConfigStays', WHERE WHAT IT READS IS OF BULK AT MOST 1048576: true; the input reads as it did. -/
def configStaysUptoRow : OpenClaim := { program := "ytjghlomkimoeoaa", sum := "ef68eb791cee6bd778554a165e3629e5faa34216abe32c56ebb723ea17713a88", func := "tumbrel/tumbrellaw10.ConfigStays", spec := "configStays", unfollowed := true, recurses := true, loops := true, plainKeys := false, apart := false, narrowed := true }
def ConfigStaysUptoSaid : Prop := configStaysUptoRow.holds Try.pinned (OpenSpec.upto configStaysSpec)

/-- 'tumbrellaw16.TimersPlay', WHERE WHAT IT READS IS OF BULK AT MOST 1048576: true; the input reads as it did. -/
def timersPlayUptoRow : OpenClaim := { program := "ytjghlomkimoeoaa", sum := "ef68eb791cee6bd778554a165e3629e5faa34216abe32c56ebb723ea17713a88", func := "tumbrel/tumbrellaw16.TimersPlay", spec := "timersPlay", unfollowed := true, recurses := true, plainKeys := false, apart := false, narrowed := true }
def TimersPlayUptoSaid : Prop := timersPlayUptoRow.holds Try.pinned (OpenSpec.upto timersPlaySpec)

/-- 'tumbrellaw16.TimersNil', WHERE WHAT IT READS IS OF BULK AT MOST 1048576: true; the input reads as it did. -/
def timersNilUptoRow : OpenClaim := { program := "ytjghlomkimoeoaa", sum := "ef68eb791cee6bd778554a165e3629e5faa34216abe32c56ebb723ea17713a88", func := "tumbrel/tumbrellaw16.TimersNil", spec := "timersNil", unfollowed := true, recurses := true, plainKeys := false, apart := false, narrowed := true }
def TimersNilUptoSaid : Prop := timersNilUptoRow.holds Try.pinned (OpenSpec.upto timersNilSpec)

end Rows
end Go.Proofs.Ytjghlomkimoeoaa
