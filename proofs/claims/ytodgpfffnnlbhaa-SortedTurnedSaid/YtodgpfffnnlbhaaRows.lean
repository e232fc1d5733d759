/-
  No cell of these rows narrows 'for every input' (looked for: loops, veiled, ifaces, maps, wideKeys, modest, calm, conditions, laid).
  DERIVED. THE GIVEN ROWS OF THIS SEAT. 10 by the template 'for every input the law returns true; each argument reads behind the call as it read before'; 0 by the template 'total and deterministic' (their statements: YtodgpfffnnlbhaaTotals.lean).
  GIVEN WITH THE SEED: the statements are not yours to turn. If you find one false, say at which input.
  Laid BY PROGRAM, IN A SANDBOX (cutbox-rows.mjs): the forced cells as the released guide's own fill.sh prints them over the translation 55166493c0cbe7e4… (all of the seat's roots in one cut). By AI agents, Wed Nov 11 2026. No macro, syntax, notation, axiom, sorry.
-/
import Derived.Test.YtodgpfffnnlbhaaChecked
import GoSem.Claim
import GoSem.ClaimJoined
import GoSem.ClaimMapViews
import Derived.JoinedTies
import Derived.KernelRfl
namespace Go.Proofs.Ytodgpfffnnlbhaa
/- THE CELL 'sum', in the pinned program and in every row, IS THE sha256 OF THE DUMP (.gsa) THAT YtodgpfffnnlbhaaProg.lean LOADS. Nothing in Lean hashes anything: it is a label: what it is worth is what the hold of that sum in a sandbox is worth. -/
noncomputable def Try.pinned : Pinned := { name := "ytodgpfffnnlbhaa", sum := "55166493c0cbe7e4d26c44760e067dc8a3b86835446d1ebc72e8cf37ab66a9ce", checked := Try.checked }
namespace Rows
def none {H : Type} : Left H := { results := [], args := [] }

/-- 'reaperlaw11.SortedCoins': WHATEVER THE INPUT: true; the input reads as it did. -/
def sortedCoinsSpec : ChangeSpec := { name := "sortedCoins", fn := fun _ => fun
  | [d1, d2, d3] => { results := [.lit (.bool true)], args := [d1, d2, d3] }
  | _ => none }
def sortedCoinsRow : OpenClaim := { program := "ytodgpfffnnlbhaa", sum := "55166493c0cbe7e4d26c44760e067dc8a3b86835446d1ebc72e8cf37ab66a9ce", func := "reaper/reaperlaw11.SortedCoins", spec := "sortedCoins", unfollowed := true, recurses := true, plainKeys := false, apart := false }
def SortedCoinsSaid : Prop := sortedCoinsRow.holds Try.pinned (OpenSpec.ofChange sortedCoinsSpec)

/-- ITS FALSE NEIGHBOUR: 'it returns false'. Refute it at one input. -/
def sortedCoinsWrong : ChangeSpec := { name := "sortedCoins", fn := fun _ => fun
  | [d1, d2, d3] => { results := [.lit (.bool false)], args := [d1, d2, d3] }
  | _ => none }
def SortedCoinsWrongFalsely : Prop := sortedCoinsRow.holds Try.pinned (OpenSpec.ofChange sortedCoinsWrong)

/-- 'reaperlaw11.SortedLeast': WHATEVER THE INPUT: true; the input reads as it did. -/
def sortedLeastSpec : ChangeSpec := { name := "sortedLeast", fn := fun _ => fun
  | [d1, d2] => { results := [.lit (.bool true)], args := [d1, d2] }
  | _ => none }
def sortedLeastRow : OpenClaim := { program := "ytodgpfffnnlbhaa", sum := "55166493c0cbe7e4d26c44760e067dc8a3b86835446d1ebc72e8cf37ab66a9ce", func := "reaper/reaperlaw11.SortedLeast", spec := "sortedLeast", unfollowed := true, recurses := true, plainKeys := false, apart := false }
def SortedLeastSaid : Prop := sortedLeastRow.holds Try.pinned (OpenSpec.ofChange sortedLeastSpec)

/-- ITS FALSE NEIGHBOUR: 'it returns false'. Refute it at one input. -/
def sortedLeastWrong : ChangeSpec := { name := "sortedLeast", fn := fun _ => fun
  | [d1, d2] => { results := [.lit (.bool false)], args := [d1, d2] }
  | _ => none }
def SortedLeastWrongFalsely : Prop := sortedLeastRow.holds Try.pinned (OpenSpec.ofChange sortedLeastWrong)

/-- 'reaperlaw11.SortedTurned': WHATEVER THE INPUT: true; the input reads as it did. -/
def sortedTurnedSpec : ChangeSpec := { name := "sortedTurned", fn := fun _ => fun
  | [d1, d2, d3] => { results := [.lit (.bool true)], args := [d1, d2, d3] }
  | _ => none }
def sortedTurnedRow : OpenClaim := { program := "ytodgpfffnnlbhaa", sum := "55166493c0cbe7e4d26c44760e067dc8a3b86835446d1ebc72e8cf37ab66a9ce", func := "reaper/reaperlaw11.SortedTurned", spec := "sortedTurned", unfollowed := true, recurses := true, plainKeys := false, apart := false }
def SortedTurnedSaid : Prop := sortedTurnedRow.holds Try.pinned (OpenSpec.ofChange sortedTurnedSpec)

/-- ITS FALSE NEIGHBOUR: 'it returns false'. Refute it at one input. -/
def sortedTurnedWrong : ChangeSpec := { name := "sortedTurned", fn := fun _ => fun
  | [d1, d2, d3] => { results := [.lit (.bool false)], args := [d1, d2, d3] }
  | _ => none }
def SortedTurnedWrongFalsely : Prop := sortedTurnedRow.holds Try.pinned (OpenSpec.ofChange sortedTurnedWrong)

/-- 'reaperlaw11.SortedOne': WHATEVER THE INPUT: true; the input reads as it did. -/
def sortedOneSpec : ChangeSpec := { name := "sortedOne", fn := fun _ => fun
  | [d1, d2, d3, d4] => { results := [.lit (.bool true)], args := [d1, d2, d3, d4] }
  | _ => none }
def sortedOneRow : OpenClaim := { program := "ytodgpfffnnlbhaa", sum := "55166493c0cbe7e4d26c44760e067dc8a3b86835446d1ebc72e8cf37ab66a9ce", func := "reaper/reaperlaw11.SortedOne", spec := "sortedOne", unfollowed := true, recurses := true, plainKeys := false, apart := false }
def SortedOneSaid : Prop := sortedOneRow.holds Try.pinned (OpenSpec.ofChange sortedOneSpec)

/-- ITS FALSE NEIGHBOUR: 'it returns false'. Refute it at one input. -/
def sortedOneWrong : ChangeSpec := { name := "sortedOne", fn := fun _ => fun
  | [d1, d2, d3, d4] => { results := [.lit (.bool false)], args := [d1, d2, d3, d4] }
  | _ => none }
def SortedOneWrongFalsely : Prop := sortedOneRow.holds Try.pinned (OpenSpec.ofChange sortedOneWrong)

/-- 'reaperlaw11.SortedDoes': WHATEVER THE INPUT: true; the input reads as it did. -/
def sortedDoesSpec : ChangeSpec := { name := "sortedDoes", fn := fun _ => fun
  | [d1, d2, d3, d4, d5, d6, d7] => { results := [.lit (.bool true)], args := [d1, d2, d3, d4, d5, d6, d7] }
  | _ => none }
def sortedDoesRow : OpenClaim := { program := "ytodgpfffnnlbhaa", sum := "55166493c0cbe7e4d26c44760e067dc8a3b86835446d1ebc72e8cf37ab66a9ce", func := "reaper/reaperlaw11.SortedDoes", spec := "sortedDoes", unfollowed := true, recurses := true, plainKeys := false, apart := false }
def SortedDoesSaid : Prop := sortedDoesRow.holds Try.pinned (OpenSpec.ofChange sortedDoesSpec)

/-- ITS FALSE NEIGHBOUR: 'it returns false'. Refute it at one input. -/
def sortedDoesWrong : ChangeSpec := { name := "sortedDoes", fn := fun _ => fun
  | [d1, d2, d3, d4, d5, d6, d7] => { results := [.lit (.bool false)], args := [d1, d2, d3, d4, d5, d6, d7] }
  | _ => none }
def SortedDoesWrongFalsely : Prop := sortedDoesRow.holds Try.pinned (OpenSpec.ofChange sortedDoesWrong)

/-- 'reaperlaw11.SortedSame': WHATEVER THE INPUT: true; the input reads as it did. -/
def sortedSameSpec : ChangeSpec := { name := "sortedSame", fn := fun _ => fun
  | [d1, d2, d3, d4, d5, d6] => { results := [.lit (.bool true)], args := [d1, d2, d3, d4, d5, d6] }
  | _ => none }
def sortedSameRow : OpenClaim := { program := "ytodgpfffnnlbhaa", sum := "55166493c0cbe7e4d26c44760e067dc8a3b86835446d1ebc72e8cf37ab66a9ce", func := "reaper/reaperlaw11.SortedSame", spec := "sortedSame", unfollowed := true, recurses := true, plainKeys := false, apart := false }
def SortedSameSaid : Prop := sortedSameRow.holds Try.pinned (OpenSpec.ofChange sortedSameSpec)

/-- ITS FALSE NEIGHBOUR: 'it returns false'. Refute it at one input. -/
def sortedSameWrong : ChangeSpec := { name := "sortedSame", fn := fun _ => fun
  | [d1, d2, d3, d4, d5, d6] => { results := [.lit (.bool false)], args := [d1, d2, d3, d4, d5, d6] }
  | _ => none }
def SortedSameWrongFalsely : Prop := sortedSameRow.holds Try.pinned (OpenSpec.ofChange sortedSameWrong)

/-- 'reaperlaw19.HistoryRight': WHATEVER THE INPUT: true; the input reads as it did. -/
def historyRightSpec : ChangeSpec := { name := "historyRight", fn := fun _ => fun
  | [d1, d2, d3, d4] => { results := [.lit (.bool true)], args := [d1, d2, d3, d4] }
  | _ => none }
def historyRightRow : OpenClaim := { program := "ytodgpfffnnlbhaa", sum := "55166493c0cbe7e4d26c44760e067dc8a3b86835446d1ebc72e8cf37ab66a9ce", func := "reaper/reaperlaw19.HistoryRight", spec := "historyRight", inPlace := ["slices.overlaps[int32]"], unfollowed := true, recurses := true, plainKeys := false, apart := false }
def HistoryRightSaid : Prop := historyRightRow.holds Try.pinned (OpenSpec.ofChange historyRightSpec)

/-- ITS FALSE NEIGHBOUR: 'it returns false'. Refute it at one input. -/
def historyRightWrong : ChangeSpec := { name := "historyRight", fn := fun _ => fun
  | [d1, d2, d3, d4] => { results := [.lit (.bool false)], args := [d1, d2, d3, d4] }
  | _ => none }
def HistoryRightWrongFalsely : Prop := historyRightRow.holds Try.pinned (OpenSpec.ofChange historyRightWrong)

/-- 'reaperlaw19.HistoryWrong': WHATEVER THE INPUT: true; the input reads as it did. -/
def historyWrongSpec : ChangeSpec := { name := "historyWrong", fn := fun _ => fun
  | [d1, d2, d3, d4] => { results := [.lit (.bool true)], args := [d1, d2, d3, d4] }
  | _ => none }
def historyWrongRow : OpenClaim := { program := "ytodgpfffnnlbhaa", sum := "55166493c0cbe7e4d26c44760e067dc8a3b86835446d1ebc72e8cf37ab66a9ce", func := "reaper/reaperlaw19.HistoryWrong", spec := "historyWrong", inPlace := ["slices.overlaps[int32]"], unfollowed := true, recurses := true, plainKeys := false, apart := false }
def HistoryWrongSaid : Prop := historyWrongRow.holds Try.pinned (OpenSpec.ofChange historyWrongSpec)

/-- ITS FALSE NEIGHBOUR: 'it returns false'. Refute it at one input. -/
def historyWrongWrong : ChangeSpec := { name := "historyWrong", fn := fun _ => fun
  | [d1, d2, d3, d4] => { results := [.lit (.bool false)], args := [d1, d2, d3, d4] }
  | _ => none }
def HistoryWrongWrongFalsely : Prop := historyWrongRow.holds Try.pinned (OpenSpec.ofChange historyWrongWrong)

/-- 'reaperlaw19.HistoryBefore': WHATEVER THE INPUT: true; the input reads as it did. -/
def historyBeforeSpec : ChangeSpec := { name := "historyBefore", fn := fun _ => fun
  | [d1, d2, d3] => { results := [.lit (.bool true)], args := [d1, d2, d3] }
  | _ => none }
def historyBeforeRow : OpenClaim := { program := "ytodgpfffnnlbhaa", sum := "55166493c0cbe7e4d26c44760e067dc8a3b86835446d1ebc72e8cf37ab66a9ce", func := "reaper/reaperlaw19.HistoryBefore", spec := "historyBefore", inPlace := ["slices.overlaps[int32]"], unfollowed := true, recurses := true, plainKeys := false, apart := false }
def HistoryBeforeSaid : Prop := historyBeforeRow.holds Try.pinned (OpenSpec.ofChange historyBeforeSpec)

/-- ITS FALSE NEIGHBOUR: 'it returns false'. Refute it at one input. -/
def historyBeforeWrong : ChangeSpec := { name := "historyBefore", fn := fun _ => fun
  | [d1, d2, d3] => { results := [.lit (.bool false)], args := [d1, d2, d3] }
  | _ => none }
def HistoryBeforeWrongFalsely : Prop := historyBeforeRow.holds Try.pinned (OpenSpec.ofChange historyBeforeWrong)

/-- 'reaperlaw19.HistoryFront': WHATEVER THE INPUT: true; the input reads as it did. -/
def historyFrontSpec : ChangeSpec := { name := "historyFront", fn := fun _ => fun
  | [d1, d2, d3, d4] => { results := [.lit (.bool true)], args := [d1, d2, d3, d4] }
  | _ => none }
def historyFrontRow : OpenClaim := { program := "ytodgpfffnnlbhaa", sum := "55166493c0cbe7e4d26c44760e067dc8a3b86835446d1ebc72e8cf37ab66a9ce", func := "reaper/reaperlaw19.HistoryFront", spec := "historyFront", inPlace := ["slices.overlaps[int32]"], unfollowed := true, recurses := true, plainKeys := false, apart := false }
def HistoryFrontSaid : Prop := historyFrontRow.holds Try.pinned (OpenSpec.ofChange historyFrontSpec)

/-- ITS FALSE NEIGHBOUR: 'it returns false'. Refute it at one input. -/
def historyFrontWrong : ChangeSpec := { name := "historyFront", fn := fun _ => fun
  | [d1, d2, d3, d4] => { results := [.lit (.bool false)], args := [d1, d2, d3, d4] }
  | _ => none }
def HistoryFrontWrongFalsely : Prop := historyFrontRow.holds Try.pinned (OpenSpec.ofChange historyFrontWrong)

/- THE SECOND FORM. 'bulk': how many values and letters a reading holds, each counted each time it is reached (what is shared counts as often as it is met; a slice's spare places count too). A statement '..UptoSaid' is the law's where the arguments, and the package variables that the reading takes, are together of bulk at most 1048576: NARROWER than '..Said'. Prove '..Said' where nothing that the law and all that it calls make is longer than what came in: it says more and counts as full. Else prove '..UptoSaid'. A law counts once. -/
mutual
def uptoBulk {H : Type} : DataW H → Nat
  | .lit (.string bytes) => bytes.length + 1
  | .lit _ => 1
  | .nil => 1
  | .ptr d => uptoBulk d + 1
  | .slice elems spare => uptoBulkAll elems + uptoBulkAll spare + 1
  | .agg parts => uptoBulkAll parts + 1
  | .iface _ d => uptoBulk d + 1
  | .map entries => uptoBulkEntries entries + 1
  | .held _ => 1
def uptoBulkAll {H : Type} : List (DataW H) → Nat
  | [] => 0
  | d :: r => uptoBulk d + uptoBulkAll r
def uptoBulkEntries {H : Type} : List (Lit × DataW H) → Nat
  | [] => 0
  | x :: r => uptoBulkEntry x + uptoBulkEntries r
def uptoBulkEntry {H : Type} : Lit × DataW H → Nat
  | (.string bytes, d) => bytes.length + uptoBulk d + 1
  | (_, d) => uptoBulk d + 1
 end
def uptoSmall : (H : Type) → List (DataW H) → Bool := fun _ ds => decide (uptoBulkAll ds ≤ 1048576)
def OpenSpec.upto (s : _root_.Go.ChangeSpec) : _root_.Go.OpenSpec := { _root_.Go.OpenSpec.ofChange s with cond := some uptoSmall }

/-- 'reaperlaw11.SortedCoins', WHERE WHAT IT READS IS OF BULK AT MOST 1048576: true; the input reads as it did. -/
def sortedCoinsUptoRow : OpenClaim := { program := "ytodgpfffnnlbhaa", sum := "55166493c0cbe7e4d26c44760e067dc8a3b86835446d1ebc72e8cf37ab66a9ce", func := "reaper/reaperlaw11.SortedCoins", spec := "sortedCoins", unfollowed := true, recurses := true, plainKeys := false, apart := false, narrowed := true }
def SortedCoinsUptoSaid : Prop := sortedCoinsUptoRow.holds Try.pinned (OpenSpec.upto sortedCoinsSpec)

/-- 'reaperlaw11.SortedLeast', WHERE WHAT IT READS IS OF BULK AT MOST 1048576: true; the input reads as it did. -/
def sortedLeastUptoRow : OpenClaim := { program := "ytodgpfffnnlbhaa", sum := "55166493c0cbe7e4d26c44760e067dc8a3b86835446d1ebc72e8cf37ab66a9ce", func := "reaper/reaperlaw11.SortedLeast", spec := "sortedLeast", unfollowed := true, recurses := true, plainKeys := false, apart := false, narrowed := true }
def SortedLeastUptoSaid : Prop := sortedLeastUptoRow.holds Try.pinned (OpenSpec.upto sortedLeastSpec)

/-- 'reaperlaw11.SortedTurned', WHERE WHAT IT READS IS OF BULK AT MOST 1048576: true; the input reads as it did. -/
def sortedTurnedUptoRow : OpenClaim := { program := "ytodgpfffnnlbhaa", sum := "55166493c0cbe7e4d26c44760e067dc8a3b86835446d1ebc72e8cf37ab66a9ce", func := "reaper/reaperlaw11.SortedTurned", spec := "sortedTurned", unfollowed := true, recurses := true, plainKeys := false, apart := false, narrowed := true }
def SortedTurnedUptoSaid : Prop := sortedTurnedUptoRow.holds Try.pinned (OpenSpec.upto sortedTurnedSpec)

/-- 'reaperlaw11.SortedOne', WHERE WHAT IT READS IS OF BULK AT MOST 1048576: true; the input reads as it did. -/
def sortedOneUptoRow : OpenClaim := { program := "ytodgpfffnnlbhaa", sum := "55166493c0cbe7e4d26c44760e067dc8a3b86835446d1ebc72e8cf37ab66a9ce", func := "reaper/reaperlaw11.SortedOne", spec := "sortedOne", unfollowed := true, recurses := true, plainKeys := false, apart := false, narrowed := true }
def SortedOneUptoSaid : Prop := sortedOneUptoRow.holds Try.pinned (OpenSpec.upto sortedOneSpec)

/-- 'reaperlaw11.SortedDoes', WHERE WHAT IT READS IS OF BULK AT MOST 1048576: true; the input reads as it did. -/
def sortedDoesUptoRow : OpenClaim := { program := "ytodgpfffnnlbhaa", sum := "55166493c0cbe7e4d26c44760e067dc8a3b86835446d1ebc72e8cf37ab66a9ce", func := "reaper/reaperlaw11.SortedDoes", spec := "sortedDoes", unfollowed := true, recurses := true, plainKeys := false, apart := false, narrowed := true }
def SortedDoesUptoSaid : Prop := sortedDoesUptoRow.holds Try.pinned (OpenSpec.upto sortedDoesSpec)

/-- 'reaperlaw11.SortedSame', WHERE WHAT IT READS IS OF BULK AT MOST 1048576: true; the input reads as it did. -/
def sortedSameUptoRow : OpenClaim := { program := "ytodgpfffnnlbhaa", sum := "55166493c0cbe7e4d26c44760e067dc8a3b86835446d1ebc72e8cf37ab66a9ce", func := "reaper/reaperlaw11.SortedSame", spec := "sortedSame", unfollowed := true, recurses := true, plainKeys := false, apart := false, narrowed := true }
def SortedSameUptoSaid : Prop := sortedSameUptoRow.holds Try.pinned (OpenSpec.upto sortedSameSpec)

/-- 'reaperlaw19.HistoryRight', WHERE WHAT IT READS IS OF BULK AT MOST 1048576: true; the input reads as it did. -/
def historyRightUptoRow : OpenClaim := { program := "ytodgpfffnnlbhaa", sum := "55166493c0cbe7e4d26c44760e067dc8a3b86835446d1ebc72e8cf37ab66a9ce", func := "reaper/reaperlaw19.HistoryRight", spec := "historyRight", inPlace := ["slices.overlaps[int32]"], unfollowed := true, recurses := true, plainKeys := false, apart := false, narrowed := true }
def HistoryRightUptoSaid : Prop := historyRightUptoRow.holds Try.pinned (OpenSpec.upto historyRightSpec)

/-- 'reaperlaw19.HistoryWrong', WHERE WHAT IT READS IS OF BULK AT MOST 1048576: true; the input reads as it did. -/
def historyWrongUptoRow : OpenClaim := { program := "ytodgpfffnnlbhaa", sum := "55166493c0cbe7e4d26c44760e067dc8a3b86835446d1ebc72e8cf37ab66a9ce", func := "reaper/reaperlaw19.HistoryWrong", spec := "historyWrong", inPlace := ["slices.overlaps[int32]"], unfollowed := true, recurses := true, plainKeys := false, apart := false, narrowed := true }
def HistoryWrongUptoSaid : Prop := historyWrongUptoRow.holds Try.pinned (OpenSpec.upto historyWrongSpec)

/-- 'reaperlaw19.HistoryBefore', WHERE WHAT IT READS IS OF BULK AT MOST 1048576: true; the input reads as it did. -/
def historyBeforeUptoRow : OpenClaim := { program := "ytodgpfffnnlbhaa", sum := "55166493c0cbe7e4d26c44760e067dc8a3b86835446d1ebc72e8cf37ab66a9ce", func := "reaper/reaperlaw19.HistoryBefore", spec := "historyBefore", inPlace := ["slices.overlaps[int32]"], unfollowed := true, recurses := true, plainKeys := false, apart := false, narrowed := true }
def HistoryBeforeUptoSaid : Prop := historyBeforeUptoRow.holds Try.pinned (OpenSpec.upto historyBeforeSpec)

/-- 'reaperlaw19.HistoryFront', WHERE WHAT IT READS IS OF BULK AT MOST 1048576: true; the input reads as it did. -/
def historyFrontUptoRow : OpenClaim := { program := "ytodgpfffnnlbhaa", sum := "55166493c0cbe7e4d26c44760e067dc8a3b86835446d1ebc72e8cf37ab66a9ce", func := "reaper/reaperlaw19.HistoryFront", spec := "historyFront", inPlace := ["slices.overlaps[int32]"], unfollowed := true, recurses := true, plainKeys := false, apart := false, narrowed := true }
def HistoryFrontUptoSaid : Prop := historyFrontUptoRow.holds Try.pinned (OpenSpec.upto historyFrontSpec)

end Rows
end Go.Proofs.Ytodgpfffnnlbhaa
