/-
  No cell of these rows narrows 'for every input' (looked for: loops, veiled, ifaces, maps, wideKeys, modest, calm, conditions, laid).
  DERIVED. THE GIVEN ROWS OF THIS SEAT. 10 by the template 'for every input the law returns true; each argument reads behind the call as it read before'; 0 by the template 'total and deterministic' (their statements: YtdglbiafpofeeaaTotals.lean).
  GIVEN WITH THE SEED: the statements are not yours to turn. If you find one false, say at which input.
  Laid BY PROGRAM, IN A SANDBOX (cutbox-rows.mjs): the forced cells as the released guide's own fill.sh prints them over the translation 82e5a1d9d3cbb826… (all of the seat's roots in one cut). By AI agents, Wed Nov 11 2026. No macro, syntax, notation, axiom, sorry.
-/
import Derived.Test.YtdglbiafpofeeaaChecked
import GoSem.Claim
import GoSem.ClaimJoined
import GoSem.ClaimMapViews
import Derived.JoinedTies
import Derived.KernelRfl
namespace Go.Proofs.Ytdglbiafpofeeaa
/- THE CELL 'sum', in the pinned program and in every row, IS THE sha256 OF THE DUMP (.gsa) THAT YtdglbiafpofeeaaProg.lean LOADS. Nothing in Lean hashes anything: it is a label: what it is worth is what the hold of that sum in a sandbox is worth. -/
noncomputable def Try.pinned : Pinned := { name := "ytdglbiafpofeeaa", sum := "82e5a1d9d3cbb82682181506e5a1399054cadc6a4a58ff8dc32aaafb67dc8dfc", checked := Try.checked }
namespace Rows
def none {H : Type} : Left H := { results := [], args := [] }

/-- 'tumbrellaw19.LedgerOnce': WHATEVER THE INPUT: true; the input reads as it did. -/
def ledgerOnceSpec : ChangeSpec := { name := "ledgerOnce", fn := fun _ => fun
  | [d] => { results := [.lit (.bool true)], args := [d] }
  | _ => none }
def ledgerOnceRow : OpenClaim := { program := "ytdglbiafpofeeaa", sum := "82e5a1d9d3cbb82682181506e5a1399054cadc6a4a58ff8dc32aaafb67dc8dfc", func := "tumbrel/tumbrellaw19.LedgerOnce", spec := "ledgerOnce", plainKeys := false, apart := false }
def LedgerOnceSaid : Prop := ledgerOnceRow.holds Try.pinned (OpenSpec.ofChange ledgerOnceSpec)

/-- ITS FALSE NEIGHBOUR: 'it returns false'. Refute it at one input. -/
def ledgerOnceWrong : ChangeSpec := { name := "ledgerOnce", fn := fun _ => fun
  | [d] => { results := [.lit (.bool false)], args := [d] }
  | _ => none }
def LedgerOnceWrongFalsely : Prop := ledgerOnceRow.holds Try.pinned (OpenSpec.ofChange ledgerOnceWrong)

/-- 'tumbrellaw19.LedgerAgain': WHATEVER THE INPUT: true; the input reads as it did. -/
def ledgerAgainSpec : ChangeSpec := { name := "ledgerAgain", fn := fun _ => fun
  | [d] => { results := [.lit (.bool true)], args := [d] }
  | _ => none }
def ledgerAgainRow : OpenClaim := { program := "ytdglbiafpofeeaa", sum := "82e5a1d9d3cbb82682181506e5a1399054cadc6a4a58ff8dc32aaafb67dc8dfc", func := "tumbrel/tumbrellaw19.LedgerAgain", spec := "ledgerAgain", plainKeys := false, apart := false }
def LedgerAgainSaid : Prop := ledgerAgainRow.holds Try.pinned (OpenSpec.ofChange ledgerAgainSpec)

/-- ITS FALSE NEIGHBOUR: 'it returns false'. Refute it at one input. -/
def ledgerAgainWrong : ChangeSpec := { name := "ledgerAgain", fn := fun _ => fun
  | [d] => { results := [.lit (.bool false)], args := [d] }
  | _ => none }
def LedgerAgainWrongFalsely : Prop := ledgerAgainRow.holds Try.pinned (OpenSpec.ofChange ledgerAgainWrong)

/-- 'tumbrellaw19.LedgerPlays': WHATEVER THE INPUT: true; the input reads as it did. -/
def ledgerPlaysSpec : ChangeSpec := { name := "ledgerPlays", fn := fun _ => fun
  | [d1, d2] => { results := [.lit (.bool true)], args := [d1, d2] }
  | _ => none }
def ledgerPlaysRow : OpenClaim := { program := "ytdglbiafpofeeaa", sum := "82e5a1d9d3cbb82682181506e5a1399054cadc6a4a58ff8dc32aaafb67dc8dfc", func := "tumbrel/tumbrellaw19.LedgerPlays", spec := "ledgerPlays", plainKeys := false, apart := false }
def LedgerPlaysSaid : Prop := ledgerPlaysRow.holds Try.pinned (OpenSpec.ofChange ledgerPlaysSpec)

/-- ITS FALSE NEIGHBOUR: 'it returns false'. Refute it at one input. -/
def ledgerPlaysWrong : ChangeSpec := { name := "ledgerPlays", fn := fun _ => fun
  | [d1, d2] => { results := [.lit (.bool false)], args := [d1, d2] }
  | _ => none }
def LedgerPlaysWrongFalsely : Prop := ledgerPlaysRow.holds Try.pinned (OpenSpec.ofChange ledgerPlaysWrong)

/-- 'tumbrellaw19.LedgerDead': WHATEVER THE INPUT: true; the input reads as it did. -/
def ledgerDeadSpec : ChangeSpec := { name := "ledgerDead", fn := fun _ => fun
  | [d1, d2, d3, d4, d5] => { results := [.lit (.bool true)], args := [d1, d2, d3, d4, d5] }
  | _ => none }
def ledgerDeadRow : OpenClaim := { program := "ytdglbiafpofeeaa", sum := "82e5a1d9d3cbb82682181506e5a1399054cadc6a4a58ff8dc32aaafb67dc8dfc", func := "tumbrel/tumbrellaw19.LedgerDead", spec := "ledgerDead", plainKeys := false, apart := false }
def LedgerDeadSaid : Prop := ledgerDeadRow.holds Try.pinned (OpenSpec.ofChange ledgerDeadSpec)

/-- ITS FALSE NEIGHBOUR: 'it returns false'. Refute it at one input. -/
def ledgerDeadWrong : ChangeSpec := { name := "ledgerDead", fn := fun _ => fun
  | [d1, d2, d3, d4, d5] => { results := [.lit (.bool false)], args := [d1, d2, d3, d4, d5] }
  | _ => none }
def LedgerDeadWrongFalsely : Prop := ledgerDeadRow.holds Try.pinned (OpenSpec.ofChange ledgerDeadWrong)

/-- 'tumbrellaw19.LedgerNil': WHATEVER THE INPUT: true; the input reads as it did. -/
def ledgerNilSpec : ChangeSpec := { name := "ledgerNil", fn := fun _ => fun
  | [d] => { results := [.lit (.bool true)], args := [d] }
  | _ => none }
def ledgerNilRow : OpenClaim := { program := "ytdglbiafpofeeaa", sum := "82e5a1d9d3cbb82682181506e5a1399054cadc6a4a58ff8dc32aaafb67dc8dfc", func := "tumbrel/tumbrellaw19.LedgerNil", spec := "ledgerNil", plainKeys := false, apart := false }
def LedgerNilSaid : Prop := ledgerNilRow.holds Try.pinned (OpenSpec.ofChange ledgerNilSpec)

/-- ITS FALSE NEIGHBOUR: 'it returns false'. Refute it at one input. -/
def ledgerNilWrong : ChangeSpec := { name := "ledgerNil", fn := fun _ => fun
  | [d] => { results := [.lit (.bool false)], args := [d] }
  | _ => none }
def LedgerNilWrongFalsely : Prop := ledgerNilRow.holds Try.pinned (OpenSpec.ofChange ledgerNilWrong)

/-- 'tumbrellaw18.OutboxNil': WHATEVER THE INPUT: true; the input reads as it did. -/
def outboxNilSpec : ChangeSpec := { name := "outboxNil", fn := fun _ => fun
  | [d] => { results := [.lit (.bool true)], args := [d] }
  | _ => none }
def outboxNilRow : OpenClaim := { program := "ytdglbiafpofeeaa", sum := "82e5a1d9d3cbb82682181506e5a1399054cadc6a4a58ff8dc32aaafb67dc8dfc", func := "tumbrel/tumbrellaw18.OutboxNil", spec := "outboxNil", unfollowed := true, recurses := true, plainKeys := false, apart := false }
def OutboxNilSaid : Prop := outboxNilRow.holds Try.pinned (OpenSpec.ofChange outboxNilSpec)

/-- ITS FALSE NEIGHBOUR: 'it returns false'. Refute it at one input. -/
def outboxNilWrong : ChangeSpec := { name := "outboxNil", fn := fun _ => fun
  | [d] => { results := [.lit (.bool false)], args := [d] }
  | _ => none }
def OutboxNilWrongFalsely : Prop := outboxNilRow.holds Try.pinned (OpenSpec.ofChange outboxNilWrong)

/-- 'tumbrellaw18.OutboxPlays': WHATEVER THE INPUT: true; the input reads as it did. -/
def outboxPlaysSpec : ChangeSpec := { name := "outboxPlays", fn := fun _ => fun
  | [d1, d2] => { results := [.lit (.bool true)], args := [d1, d2] }
  | _ => none }
def outboxPlaysRow : OpenClaim := { program := "ytdglbiafpofeeaa", sum := "82e5a1d9d3cbb82682181506e5a1399054cadc6a4a58ff8dc32aaafb67dc8dfc", func := "tumbrel/tumbrellaw18.OutboxPlays", spec := "outboxPlays", unfollowed := true, recurses := true, plainKeys := false, apart := false }
def OutboxPlaysSaid : Prop := outboxPlaysRow.holds Try.pinned (OpenSpec.ofChange outboxPlaysSpec)

/-- ITS FALSE NEIGHBOUR: 'it returns false'. Refute it at one input. -/
def outboxPlaysWrong : ChangeSpec := { name := "outboxPlays", fn := fun _ => fun
  | [d1, d2] => { results := [.lit (.bool false)], args := [d1, d2] }
  | _ => none }
def OutboxPlaysWrongFalsely : Prop := outboxPlaysRow.holds Try.pinned (OpenSpec.ofChange outboxPlaysWrong)

/-- 'tumbrellaw18.OutboxEncodes': WHATEVER THE INPUT: true; the input reads as it did. -/
def outboxEncodesSpec : ChangeSpec := { name := "outboxEncodes", fn := fun _ => fun
  | [d] => { results := [.lit (.bool true)], args := [d] }
  | _ => none }
def outboxEncodesRow : OpenClaim := { program := "ytdglbiafpofeeaa", sum := "82e5a1d9d3cbb82682181506e5a1399054cadc6a4a58ff8dc32aaafb67dc8dfc", func := "tumbrel/tumbrellaw18.OutboxEncodes", spec := "outboxEncodes", unfollowed := true, recurses := true, plainKeys := false, apart := false }
def OutboxEncodesSaid : Prop := outboxEncodesRow.holds Try.pinned (OpenSpec.ofChange outboxEncodesSpec)

/-- ITS FALSE NEIGHBOUR: 'it returns false'. Refute it at one input. -/
def outboxEncodesWrong : ChangeSpec := { name := "outboxEncodes", fn := fun _ => fun
  | [d] => { results := [.lit (.bool false)], args := [d] }
  | _ => none }
def OutboxEncodesWrongFalsely : Prop := outboxEncodesRow.holds Try.pinned (OpenSpec.ofChange outboxEncodesWrong)

/-- 'tumbrellaw18.OutboxDecodes': WHATEVER THE INPUT: true; the input reads as it did. -/
def outboxDecodesSpec : ChangeSpec := { name := "outboxDecodes", fn := fun _ => fun
  | [d] => { results := [.lit (.bool true)], args := [d] }
  | _ => none }
def outboxDecodesRow : OpenClaim := { program := "ytdglbiafpofeeaa", sum := "82e5a1d9d3cbb82682181506e5a1399054cadc6a4a58ff8dc32aaafb67dc8dfc", func := "tumbrel/tumbrellaw18.OutboxDecodes", spec := "outboxDecodes", unfollowed := true, recurses := true, plainKeys := false, apart := false }
def OutboxDecodesSaid : Prop := outboxDecodesRow.holds Try.pinned (OpenSpec.ofChange outboxDecodesSpec)

/-- ITS FALSE NEIGHBOUR: 'it returns false'. Refute it at one input. -/
def outboxDecodesWrong : ChangeSpec := { name := "outboxDecodes", fn := fun _ => fun
  | [d] => { results := [.lit (.bool false)], args := [d] }
  | _ => none }
def OutboxDecodesWrongFalsely : Prop := outboxDecodesRow.holds Try.pinned (OpenSpec.ofChange outboxDecodesWrong)

/-- 'tumbrellaw18.OutboxTurned': WHATEVER THE INPUT: true; the input reads as it did. -/
def outboxTurnedSpec : ChangeSpec := { name := "outboxTurned", fn := fun _ => fun
  | [d1, d2, d3] => { results := [.lit (.bool true)], args := [d1, d2, d3] }
  | _ => none }
def outboxTurnedRow : OpenClaim := { program := "ytdglbiafpofeeaa", sum := "82e5a1d9d3cbb82682181506e5a1399054cadc6a4a58ff8dc32aaafb67dc8dfc", func := "tumbrel/tumbrellaw18.OutboxTurned", spec := "outboxTurned", unfollowed := true, recurses := true, plainKeys := false, apart := false }
def OutboxTurnedSaid : Prop := outboxTurnedRow.holds Try.pinned (OpenSpec.ofChange outboxTurnedSpec)

/-- ITS FALSE NEIGHBOUR: 'it returns false'. Refute it at one input. -/
def outboxTurnedWrong : ChangeSpec := { name := "outboxTurned", fn := fun _ => fun
  | [d1, d2, d3] => { results := [.lit (.bool false)], args := [d1, d2, d3] }
  | _ => none }
def OutboxTurnedWrongFalsely : Prop := outboxTurnedRow.holds Try.pinned (OpenSpec.ofChange outboxTurnedWrong)

/- THE SECOND FORM. 'bulk': how many values and letters a reading holds, each counted each time it is reached (what is shared counts as often as it is met; a slice's spare places count too). A statement '..UptoSaid' is the law's where the arguments, and the package variables that the reading takes, are together of bulk at most 1048576: NARROWER than '..Said'. Prove '..Said' where nothing that the law and all that it calls make is longer than what came in: it says more and counts as full. Else prove '..UptoSaid'. A law counts once. -/
mutual
def uptoBulk {H : Type} : DataW H → Nat
  | .lit (.string bytes) => bytes.length + 1
  | .lit _ => 1
  | .nil => 1
  | .ptr d => uptoBulk d + 1
  | .slice elems spare => uptoBulkAll elems + uptoBulkAll spare + 1
  | .agg parts => uptoBulkAll parts + 1
  | .iface _ d => uptoBulk d + 1
  | .map entries => uptoBulkEntries entries + 1
  | .held _ => 1
def uptoBulkAll {H : Type} : List (DataW H) → Nat
  | [] => 0
  | d :: r => uptoBulk d + uptoBulkAll r
def uptoBulkEntries {H : Type} : List (Lit × DataW H) → Nat
  | [] => 0
  | x :: r => uptoBulkEntry x + uptoBulkEntries r
def uptoBulkEntry {H : Type} : Lit × DataW H → Nat
  | (.string bytes, d) => bytes.length + uptoBulk d + 1
  | (_, d) => uptoBulk d + 1
 end
def uptoSmall : (H : Type) → List (DataW H) → Bool := fun _ ds => decide (uptoBulkAll ds ≤ 1048576)
def OpenSpec.upto (s : _root_.Go.ChangeSpec) : _root_.Go.OpenSpec := { _root_.Go.OpenSpec.ofChange s with cond := some uptoSmall }

/-- 'tumbrellaw19.LedgerOnce', WHERE WHAT IT READS IS OF BULK AT MOST 1048576: true; the input reads as it did. -/
def ledgerOnceUptoRow : OpenClaim := { program := "ytdglbiafpofeeaa", sum := "82e5a1d9d3cbb82682181506e5a1399054cadc6a4a58ff8dc32aaafb67dc8dfc", func := "tumbrel/tumbrellaw19.LedgerOnce", spec := "ledgerOnce", plainKeys := false, apart := false, narrowed := true }
def LedgerOnceUptoSaid : Prop := ledgerOnceUptoRow.holds Try.pinned (OpenSpec.upto ledgerOnceSpec)

/-- 'tumbrellaw19.LedgerAgain', WHERE WHAT IT READS IS OF BULK AT MOST 1048576: true; the input reads as it did. -/
def ledgerAgainUptoRow : OpenClaim := { program := "ytdglbiafpofeeaa", sum := "82e5a1d9d3cbb82682181506e5a1399054cadc6a4a58ff8dc32aaafb67dc8dfc", func := "tumbrel/tumbrellaw19.LedgerAgain", spec := "ledgerAgain", plainKeys := false, apart := false, narrowed := true }
def LedgerAgainUptoSaid : Prop := ledgerAgainUptoRow.holds Try.pinned (OpenSpec.upto ledgerAgainSpec)

/-- 'tumbrellaw19.LedgerPlays', WHERE WHAT IT READS IS OF BULK AT MOST 1048576: true; the input reads as it did. -/
def ledgerPlaysUptoRow : OpenClaim := { program := "ytdglbiafpofeeaa", sum := "82e5a1d9d3cbb82682181506e5a1399054cadc6a4a58ff8dc32aaafb67dc8dfc", func := "tumbrel/tumbrellaw19.LedgerPlays", spec := "ledgerPlays", plainKeys := false, apart := false, narrowed := true }
def LedgerPlaysUptoSaid : Prop := ledgerPlaysUptoRow.holds Try.pinned (OpenSpec.upto ledgerPlaysSpec)

/-- 'tumbrellaw19.LedgerDead', WHERE WHAT IT READS IS OF BULK AT MOST 1048576: true; the input reads as it did. -/
def ledgerDeadUptoRow : OpenClaim := { program := "ytdglbiafpofeeaa", sum := "82e5a1d9d3cbb82682181506e5a1399054cadc6a4a58ff8dc32aaafb67dc8dfc", func := "tumbrel/tumbrellaw19.LedgerDead", spec := "ledgerDead", plainKeys := false, apart := false, narrowed := true }
def LedgerDeadUptoSaid : Prop := ledgerDeadUptoRow.holds Try.pinned (OpenSpec.upto ledgerDeadSpec)

/-- 'tumbrellaw19.LedgerNil', WHERE WHAT IT READS IS OF BULK AT MOST 1048576: true; the input reads as it did. -/
def ledgerNilUptoRow : OpenClaim := { program := "ytdglbiafpofeeaa", sum := "82e5a1d9d3cbb82682181506e5a1399054cadc6a4a58ff8dc32aaafb67dc8dfc", func := "tumbrel/tumbrellaw19.LedgerNil", spec := "ledgerNil", plainKeys := false, apart := false, narrowed := true }
def LedgerNilUptoSaid : Prop := ledgerNilUptoRow.holds Try.pinned (OpenSpec.upto ledgerNilSpec)

/-- 'tumbrellaw18.OutboxNil', WHERE WHAT IT READS IS OF BULK AT MOST 1048576: true; the input reads as it did. -/
def outboxNilUptoRow : OpenClaim := { program := "ytdglbiafpofeeaa", sum := "82e5a1d9d3cbb82682181506e5a1399054cadc6a4a58ff8dc32aaafb67dc8dfc", func := "tumbrel/tumbrellaw18.OutboxNil", spec := "outboxNil", unfollowed := true, recurses := true, plainKeys := false, apart := false, narrowed := true }
def OutboxNilUptoSaid : Prop := outboxNilUptoRow.holds Try.pinned (OpenSpec.upto outboxNilSpec)

/-- 'tumbrellaw18.OutboxPlays', WHERE WHAT IT READS IS OF BULK AT MOST 1048576: true; the input reads as it did. -/
def outboxPlaysUptoRow : OpenClaim := { program := "ytdglbiafpofeeaa", sum := "82e5a1d9d3cbb82682181506e5a1399054cadc6a4a58ff8dc32aaafb67dc8dfc", func := "tumbrel/tumbrellaw18.OutboxPlays", spec := "outboxPlays", unfollowed := true, recurses := true, plainKeys := false, apart := false, narrowed := true }
def OutboxPlaysUptoSaid : Prop := outboxPlaysUptoRow.holds Try.pinned (OpenSpec.upto outboxPlaysSpec)

/-- 'tumbrellaw18.OutboxEncodes', WHERE WHAT IT READS IS OF BULK AT MOST 1048576: true; the input reads as it did. -/
def outboxEncodesUptoRow : OpenClaim := { program := "ytdglbiafpofeeaa", sum := "82e5a1d9d3cbb82682181506e5a1399054cadc6a4a58ff8dc32aaafb67dc8dfc", func := "tumbrel/tumbrellaw18.OutboxEncodes", spec := "outboxEncodes", unfollowed := true, recurses := true, plainKeys := false, apart := false, narrowed := true }
def OutboxEncodesUptoSaid : Prop := outboxEncodesUptoRow.holds Try.pinned (OpenSpec.upto outboxEncodesSpec)

/-- 'tumbrellaw18.OutboxDecodes', WHERE WHAT IT READS IS OF BULK AT MOST 1048576: true; the input reads as it did. -/
def outboxDecodesUptoRow : OpenClaim := { program := "ytdglbiafpofeeaa", sum := "82e5a1d9d3cbb82682181506e5a1399054cadc6a4a58ff8dc32aaafb67dc8dfc", func := "tumbrel/tumbrellaw18.OutboxDecodes", spec := "outboxDecodes", unfollowed := true, recurses := true, plainKeys := false, apart := false, narrowed := true }
def OutboxDecodesUptoSaid : Prop := outboxDecodesUptoRow.holds Try.pinned (OpenSpec.upto outboxDecodesSpec)

/-- 'tumbrellaw18.OutboxTurned', WHERE WHAT IT READS IS OF BULK AT MOST 1048576: true; the input reads as it did. -/
def outboxTurnedUptoRow : OpenClaim := { program := "ytdglbiafpofeeaa", sum := "82e5a1d9d3cbb82682181506e5a1399054cadc6a4a58ff8dc32aaafb67dc8dfc", func := "tumbrel/tumbrellaw18.OutboxTurned", spec := "outboxTurned", unfollowed := true, recurses := true, plainKeys := false, apart := false, narrowed := true }
def OutboxTurnedUptoSaid : Prop := outboxTurnedUptoRow.holds Try.pinned (OpenSpec.upto outboxTurnedSpec)

end Rows
end Go.Proofs.Ytdglbiafpofeeaa
