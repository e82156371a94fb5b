/-
  No cell of these rows narrows 'for every input' (looked for: loops, veiled, ifaces, maps, wideKeys, modest, calm, conditions, laid).
  DERIVED. THE GIVEN ROWS OF THIS SEAT. 7 by the template 'for every input the law returns true; each argument reads behind the call as it read before'; 0 by the template 'total and deterministic' (their statements: YtnplnelhodnonaaTotals.lean).
  GIVEN WITH THE SEED: the statements are not yours to turn. If you find one false, say at which input.
  Laid BY PROGRAM, IN A SANDBOX (cutbox-rows.mjs): the forced cells as the released guide's own fill.sh prints them over the translation 417a50d9b388e753… (all of the seat's roots in one cut). By AI agents, Wed Nov 11 2026. No macro, syntax, notation, axiom, sorry.
-/
import Derived.Test.YtnplnelhodnonaaChecked
import GoSem.Claim
import GoSem.ClaimJoined
import GoSem.ClaimMapViews
import Derived.JoinedTies
import Derived.KernelRfl
namespace Go.Proofs.Ytnplnelhodnonaa
/- THE CELL 'sum', in the pinned program and in every row, IS THE sha256 OF THE DUMP (.gsa) THAT YtnplnelhodnonaaProg.lean LOADS. Nothing in Lean hashes anything: it is a label: what it is worth is what the hold of that sum in a sandbox is worth. -/
noncomputable def Try.pinned : Pinned := { name := "ytnplnelhodnonaa", sum := "417a50d9b388e75346fbfd8bd7ececb9861c37e0750c60581122f725f7bc27c9", checked := Try.checked }
namespace Rows
def none {H : Type} : Left H := { results := [], args := [] }

/-- 'tumbrellaw14.DiskPlays': WHATEVER THE INPUT: true; the input reads as it did. -/
def diskPlaysSpec : ChangeSpec := { name := "diskPlays", fn := fun _ => fun
  | [d1, d2] => { results := [.lit (.bool true)], args := [d1, d2] }
  | _ => none }
def diskPlaysRow : OpenClaim := { program := "ytnplnelhodnonaa", sum := "417a50d9b388e75346fbfd8bd7ececb9861c37e0750c60581122f725f7bc27c9", func := "tumbrel/tumbrellaw14.DiskPlays", spec := "diskPlays", unfollowed := true, recurses := true, apart := false }
def DiskPlaysSaid : Prop := diskPlaysRow.holds Try.pinned (OpenSpec.ofChange diskPlaysSpec)

/-- ITS FALSE NEIGHBOUR: 'it returns false'. Refute it at one input. -/
def diskPlaysWrong : ChangeSpec := { name := "diskPlays", fn := fun _ => fun
  | [d1, d2] => { results := [.lit (.bool false)], args := [d1, d2] }
  | _ => none }
def DiskPlaysWrongFalsely : Prop := diskPlaysRow.holds Try.pinned (OpenSpec.ofChange diskPlaysWrong)

/-- 'tumbrellaw14.DiskKeeps': WHATEVER THE INPUT: true; the input reads as it did. -/
def diskKeepsSpec : ChangeSpec := { name := "diskKeeps", fn := fun _ => fun
  | [d1, d2] => { results := [.lit (.bool true)], args := [d1, d2] }
  | _ => none }
def diskKeepsRow : OpenClaim := { program := "ytnplnelhodnonaa", sum := "417a50d9b388e75346fbfd8bd7ececb9861c37e0750c60581122f725f7bc27c9", func := "tumbrel/tumbrellaw14.DiskKeeps", spec := "diskKeeps", unfollowed := true, recurses := true, apart := false }
def DiskKeepsSaid : Prop := diskKeepsRow.holds Try.pinned (OpenSpec.ofChange diskKeepsSpec)

/-- ITS FALSE NEIGHBOUR: 'it returns false'. Refute it at one input. -/
def diskKeepsWrong : ChangeSpec := { name := "diskKeeps", fn := fun _ => fun
  | [d1, d2] => { results := [.lit (.bool false)], args := [d1, d2] }
  | _ => none }
def DiskKeepsWrongFalsely : Prop := diskKeepsRow.holds Try.pinned (OpenSpec.ofChange diskKeepsWrong)

/-- 'tumbrellaw14.DiskNil': WHATEVER THE INPUT: true; the input reads as it did. -/
def diskNilSpec : ChangeSpec := { name := "diskNil", fn := fun _ => fun
  | [d] => { results := [.lit (.bool true)], args := [d] }
  | _ => none }
def diskNilRow : OpenClaim := { program := "ytnplnelhodnonaa", sum := "417a50d9b388e75346fbfd8bd7ececb9861c37e0750c60581122f725f7bc27c9", func := "tumbrel/tumbrellaw14.DiskNil", spec := "diskNil", unfollowed := true, recurses := true, apart := false }
def DiskNilSaid : Prop := diskNilRow.holds Try.pinned (OpenSpec.ofChange diskNilSpec)

/-- ITS FALSE NEIGHBOUR: 'it returns false'. Refute it at one input. -/
def diskNilWrong : ChangeSpec := { name := "diskNil", fn := fun _ => fun
  | [d] => { results := [.lit (.bool false)], args := [d] }
  | _ => none }
def DiskNilWrongFalsely : Prop := diskNilRow.holds Try.pinned (OpenSpec.ofChange diskNilWrong)

/-- 'tumbrellaw15.JournalNil': WHATEVER THE INPUT: true; the input reads as it did. -/
def journalNilSpec : ChangeSpec := { name := "journalNil", fn := fun _ => fun
  | [d] => { results := [.lit (.bool true)], args := [d] }
  | _ => none }
def journalNilRow : OpenClaim := { program := "ytnplnelhodnonaa", sum := "417a50d9b388e75346fbfd8bd7ececb9861c37e0750c60581122f725f7bc27c9", func := "tumbrel/tumbrellaw15.JournalNil", spec := "journalNil", unfollowed := true, recurses := true, apart := false }
def JournalNilSaid : Prop := journalNilRow.holds Try.pinned (OpenSpec.ofChange journalNilSpec)

/-- ITS FALSE NEIGHBOUR: 'it returns false'. Refute it at one input. -/
def journalNilWrong : ChangeSpec := { name := "journalNil", fn := fun _ => fun
  | [d] => { results := [.lit (.bool false)], args := [d] }
  | _ => none }
def JournalNilWrongFalsely : Prop := journalNilRow.holds Try.pinned (OpenSpec.ofChange journalNilWrong)

/-- 'tumbrellaw15.JournalSpoilt': WHATEVER THE INPUT: true; the input reads as it did. -/
def journalSpoiltSpec : ChangeSpec := { name := "journalSpoilt", fn := fun _ => fun
  | [d1, d2, d3, d4] => { results := [.lit (.bool true)], args := [d1, d2, d3, d4] }
  | _ => none }
def journalSpoiltRow : OpenClaim := { program := "ytnplnelhodnonaa", sum := "417a50d9b388e75346fbfd8bd7ececb9861c37e0750c60581122f725f7bc27c9", func := "tumbrel/tumbrellaw15.JournalSpoilt", spec := "journalSpoilt", unfollowed := true, recurses := true, apart := false }
def JournalSpoiltSaid : Prop := journalSpoiltRow.holds Try.pinned (OpenSpec.ofChange journalSpoiltSpec)

/-- ITS FALSE NEIGHBOUR: 'it returns false'. Refute it at one input. -/
def journalSpoiltWrong : ChangeSpec := { name := "journalSpoilt", fn := fun _ => fun
  | [d1, d2, d3, d4] => { results := [.lit (.bool false)], args := [d1, d2, d3, d4] }
  | _ => none }
def JournalSpoiltWrongFalsely : Prop := journalSpoiltRow.holds Try.pinned (OpenSpec.ofChange journalSpoiltWrong)

/-- 'tumbrellaw15.JournalCrashes': WHATEVER THE INPUT: true; the input reads as it did. -/
def journalCrashesSpec : ChangeSpec := { name := "journalCrashes", fn := fun _ => fun
  | [d1, d2, d3, d4] => { results := [.lit (.bool true)], args := [d1, d2, d3, d4] }
  | _ => none }
def journalCrashesRow : OpenClaim := { program := "ytnplnelhodnonaa", sum := "417a50d9b388e75346fbfd8bd7ececb9861c37e0750c60581122f725f7bc27c9", func := "tumbrel/tumbrellaw15.JournalCrashes", spec := "journalCrashes", unfollowed := true, recurses := true, apart := false }
def JournalCrashesSaid : Prop := journalCrashesRow.holds Try.pinned (OpenSpec.ofChange journalCrashesSpec)

/-- ITS FALSE NEIGHBOUR: 'it returns false'. Refute it at one input. -/
def journalCrashesWrong : ChangeSpec := { name := "journalCrashes", fn := fun _ => fun
  | [d1, d2, d3, d4] => { results := [.lit (.bool false)], args := [d1, d2, d3, d4] }
  | _ => none }
def JournalCrashesWrongFalsely : Prop := journalCrashesRow.holds Try.pinned (OpenSpec.ofChange journalCrashesWrong)

/-- 'tumbrellaw15.JournalPlays': WHATEVER THE INPUT: true; the input reads as it did. -/
def journalPlaysSpec : ChangeSpec := { name := "journalPlays", fn := fun _ => fun
  | [d1, d2] => { results := [.lit (.bool true)], args := [d1, d2] }
  | _ => none }
def journalPlaysRow : OpenClaim := { program := "ytnplnelhodnonaa", sum := "417a50d9b388e75346fbfd8bd7ececb9861c37e0750c60581122f725f7bc27c9", func := "tumbrel/tumbrellaw15.JournalPlays", spec := "journalPlays", unfollowed := true, recurses := true, apart := false }
def JournalPlaysSaid : Prop := journalPlaysRow.holds Try.pinned (OpenSpec.ofChange journalPlaysSpec)

/-- ITS FALSE NEIGHBOUR: 'it returns false'. Refute it at one input. -/
def journalPlaysWrong : ChangeSpec := { name := "journalPlays", fn := fun _ => fun
  | [d1, d2] => { results := [.lit (.bool false)], args := [d1, d2] }
  | _ => none }
def JournalPlaysWrongFalsely : Prop := journalPlaysRow.holds Try.pinned (OpenSpec.ofChange journalPlaysWrong)

/- THE SECOND FORM. 'bulk': how many values and letters a reading holds, each counted each time it is reached (what is shared counts as often as it is met; a slice's spare places count too). A statement '..UptoSaid' is the law's where the arguments, and the package variables that the reading takes, are together of bulk at most 1048576: NARROWER than '..Said'. Prove '..Said' where nothing that the law and all that it calls make is longer than what came in: it says more and counts as full. Else prove '..UptoSaid'. A law counts once. -/
mutual
def uptoBulk {H : Type} : DataW H → Nat
  | .lit (.string bytes) => bytes.length + 1
  | .lit _ => 1
  | .nil => 1
  | .ptr d => uptoBulk d + 1
  | .slice elems spare => uptoBulkAll elems + uptoBulkAll spare + 1
  | .agg parts => uptoBulkAll parts + 1
  | .iface _ d => uptoBulk d + 1
  | .map entries => uptoBulkEntries entries + 1
  | .held _ => 1
def uptoBulkAll {H : Type} : List (DataW H) → Nat
  | [] => 0
  | d :: r => uptoBulk d + uptoBulkAll r
def uptoBulkEntries {H : Type} : List (Lit × DataW H) → Nat
  | [] => 0
  | x :: r => uptoBulkEntry x + uptoBulkEntries r
def uptoBulkEntry {H : Type} : Lit × DataW H → Nat
  | (.string bytes, d) => bytes.length + uptoBulk d + 1
  | (_, d) => uptoBulk d + 1
 end
def uptoSmall : (H : Type) → List (DataW H) → Bool := fun _ ds => decide (uptoBulkAll ds ≤ 1048576)
def OpenSpec.upto (s : _root_.Go.ChangeSpec) : _root_.Go.OpenSpec := { _root_.Go.OpenSpec.ofChange s with cond := some uptoSmall }

/-- 'tumbrellaw14.DiskPlays', WHERE WHAT IT READS IS OF BULK AT MOST 1048576: true; the input reads as it did. -/
def diskPlaysUptoRow : OpenClaim := { program := "ytnplnelhodnonaa", sum := "417a50d9b388e75346fbfd8bd7ececb9861c37e0750c60581122f725f7bc27c9", func := "tumbrel/tumbrellaw14.DiskPlays", spec := "diskPlays", unfollowed := true, recurses := true, apart := false, narrowed := true }
def DiskPlaysUptoSaid : Prop := diskPlaysUptoRow.holds Try.pinned (OpenSpec.upto diskPlaysSpec)

/-- 'tumbrellaw14.DiskKeeps', WHERE WHAT IT READS IS OF BULK AT MOST 1048576: true; the input reads as it did. -/
def diskKeepsUptoRow : OpenClaim := { program := "ytnplnelhodnonaa", sum := "417a50d9b388e75346fbfd8bd7ececb9861c37e0750c60581122f725f7bc27c9", func := "tumbrel/tumbrellaw14.DiskKeeps", spec := "diskKeeps", unfollowed := true, recurses := true, apart := false, narrowed := true }
def DiskKeepsUptoSaid : Prop := diskKeepsUptoRow.holds Try.pinned (OpenSpec.upto diskKeepsSpec)

/-- 'tumbrellaw14.DiskNil', WHERE WHAT IT READS IS OF BULK AT MOST 1048576: true; the input reads as it did. -/
def diskNilUptoRow : OpenClaim := { program := "ytnplnelhodnonaa", sum := "417a50d9b388e75346fbfd8bd7ececb9861c37e0750c60581122f725f7bc27c9", func := "tumbrel/tumbrellaw14.DiskNil", spec := "diskNil", unfollowed := true, recurses := true, apart := false, narrowed := true }
def DiskNilUptoSaid : Prop := diskNilUptoRow.holds Try.pinned (OpenSpec.upto diskNilSpec)

/-- 'tumbrellaw15.JournalNil', WHERE WHAT IT READS IS OF BULK AT MOST 1048576: true; the input reads as it did. -/
def journalNilUptoRow : OpenClaim := { program := "ytnplnelhodnonaa", sum := "417a50d9b388e75346fbfd8bd7ececb9861c37e0750c60581122f725f7bc27c9", func := "tumbrel/tumbrellaw15.JournalNil", spec := "journalNil", unfollowed := true, recurses := true, apart := false, narrowed := true }
def JournalNilUptoSaid : Prop := journalNilUptoRow.holds Try.pinned (OpenSpec.upto journalNilSpec)

/-- 'tumbrellaw15.JournalSpoilt', WHERE WHAT IT READS IS OF BULK AT MOST 1048576: true; the input reads as it did. -/
def journalSpoiltUptoRow : OpenClaim := { program := "ytnplnelhodnonaa", sum := "417a50d9b388e75346fbfd8bd7ececb9861c37e0750c60581122f725f7bc27c9", func := "tumbrel/tumbrellaw15.JournalSpoilt", spec := "journalSpoilt", unfollowed := true, recurses := true, apart := false, narrowed := true }
def JournalSpoiltUptoSaid : Prop := journalSpoiltUptoRow.holds Try.pinned (OpenSpec.upto journalSpoiltSpec)

/-- 'tumbrellaw15.JournalCrashes', WHERE WHAT IT READS IS OF BULK AT MOST 1048576: true; the input reads as it did. -/
def journalCrashesUptoRow : OpenClaim := { program := "ytnplnelhodnonaa", sum := "417a50d9b388e75346fbfd8bd7ececb9861c37e0750c60581122f725f7bc27c9", func := "tumbrel/tumbrellaw15.JournalCrashes", spec := "journalCrashes", unfollowed := true, recurses := true, apart := false, narrowed := true }
def JournalCrashesUptoSaid : Prop := journalCrashesUptoRow.holds Try.pinned (OpenSpec.upto journalCrashesSpec)

/-- 'tumbrellaw15.JournalPlays', WHERE WHAT IT READS IS OF BULK AT MOST 1048576: true; the input reads as it did. -/
def journalPlaysUptoRow : OpenClaim := { program := "ytnplnelhodnonaa", sum := "417a50d9b388e75346fbfd8bd7ececb9861c37e0750c60581122f725f7bc27c9", func := "tumbrel/tumbrellaw15.JournalPlays", spec := "journalPlays", unfollowed := true, recurses := true, apart := false, narrowed := true }
def JournalPlaysUptoSaid : Prop := journalPlaysUptoRow.holds Try.pinned (OpenSpec.upto journalPlaysSpec)

end Rows
end Go.Proofs.Ytnplnelhodnonaa
