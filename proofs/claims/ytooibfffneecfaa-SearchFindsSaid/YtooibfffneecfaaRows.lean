/-
  No cell of these rows narrows 'for every input' (looked for: loops, veiled, ifaces, maps, wideKeys, modest, calm, conditions, laid).
  DERIVED. THE GIVEN ROWS OF THIS SEAT. 10 by the template 'for every input the law returns true; each argument reads behind the call as it read before'; 0 by the template 'total and deterministic' (their statements: YtooibfffneecfaaTotals.lean).
  GIVEN WITH THE SEED: the statements are not yours to turn. If you find one false, say at which input.
  Laid BY PROGRAM, IN A SANDBOX (cutbox-rows.mjs): the forced cells as the released guide's own fill.sh prints them over the translation b13e8fbdcbe84c58… (all of the seat's roots in one cut). By AI agents, Wed Nov 11 2026. No macro, syntax, notation, axiom, sorry.
-/
import Derived.Test.YtooibfffneecfaaChecked
import GoSem.Claim
import GoSem.ClaimJoined
import GoSem.ClaimMapViews
import Derived.JoinedTies
import Derived.KernelRfl
namespace Go.Proofs.Ytooibfffneecfaa
/- THE CELL 'sum', in the pinned program and in every row, IS THE sha256 OF THE DUMP (.gsa) THAT YtooibfffneecfaaProg.lean LOADS. Nothing in Lean hashes anything: it is a label: what it is worth is what the hold of that sum in a sandbox is worth. -/
noncomputable def Try.pinned : Pinned := { name := "ytooibfffneecfaa", sum := "b13e8fbdcbe84c5841d94e3a1134c598a418da2e6f36911b930112a3a068a4f0", checked := Try.checked }
namespace Rows
def none {H : Type} : Left H := { results := [], args := [] }

/-- 'reaperlaw20.SearchFits': WHATEVER THE INPUT: true; the input reads as it did. -/
def searchFitsSpec : ChangeSpec := { name := "searchFits", fn := fun _ => fun
  | [d1, d2, d3, d4, d5, d6, d7] => { results := [.lit (.bool true)], args := [d1, d2, d3, d4, d5, d6, d7] }
  | _ => none }
def searchFitsRow : OpenClaim := { program := "ytooibfffneecfaa", sum := "b13e8fbdcbe84c5841d94e3a1134c598a418da2e6f36911b930112a3a068a4f0", func := "reaper/reaperlaw20.SearchFits", spec := "searchFits", inPlace := ["slices.overlaps[int32]"], unfollowed := true, recurses := true, plainKeys := false, apart := false }
def SearchFitsSaid : Prop := searchFitsRow.holds Try.pinned (OpenSpec.ofChange searchFitsSpec)

/-- ITS FALSE NEIGHBOUR: 'it returns false'. Refute it at one input. -/
def searchFitsWrong : ChangeSpec := { name := "searchFits", fn := fun _ => fun
  | [d1, d2, d3, d4, d5, d6, d7] => { results := [.lit (.bool false)], args := [d1, d2, d3, d4, d5, d6, d7] }
  | _ => none }
def SearchFitsWrongFalsely : Prop := searchFitsRow.holds Try.pinned (OpenSpec.ofChange searchFitsWrong)

/-- 'reaperlaw20.SearchFinds': WHATEVER THE INPUT: true; the input reads as it did. -/
def searchFindsSpec : ChangeSpec := { name := "searchFinds", fn := fun _ => fun
  | [d1, d2, d3, d4, d5, d6, d7, d8] => { results := [.lit (.bool true)], args := [d1, d2, d3, d4, d5, d6, d7, d8] }
  | _ => none }
def searchFindsRow : OpenClaim := { program := "ytooibfffneecfaa", sum := "b13e8fbdcbe84c5841d94e3a1134c598a418da2e6f36911b930112a3a068a4f0", func := "reaper/reaperlaw20.SearchFinds", spec := "searchFinds", inPlace := ["slices.overlaps[int32]"], unfollowed := true, recurses := true, plainKeys := false, apart := false }
def SearchFindsSaid : Prop := searchFindsRow.holds Try.pinned (OpenSpec.ofChange searchFindsSpec)

/-- ITS FALSE NEIGHBOUR: 'it returns false'. Refute it at one input. -/
def searchFindsWrong : ChangeSpec := { name := "searchFinds", fn := fun _ => fun
  | [d1, d2, d3, d4, d5, d6, d7, d8] => { results := [.lit (.bool false)], args := [d1, d2, d3, d4, d5, d6, d7, d8] }
  | _ => none }
def SearchFindsWrongFalsely : Prop := searchFindsRow.holds Try.pinned (OpenSpec.ofChange searchFindsWrong)

/-- 'reaperlaw20.SearchProof': WHATEVER THE INPUT: true; the input reads as it did. -/
def searchProofSpec : ChangeSpec := { name := "searchProof", fn := fun _ => fun
  | [d1, d2] => { results := [.lit (.bool true)], args := [d1, d2] }
  | _ => none }
def searchProofRow : OpenClaim := { program := "ytooibfffneecfaa", sum := "b13e8fbdcbe84c5841d94e3a1134c598a418da2e6f36911b930112a3a068a4f0", func := "reaper/reaperlaw20.SearchProof", spec := "searchProof", inPlace := ["slices.overlaps[int32]"], unfollowed := true, recurses := true, plainKeys := false, apart := false }
def SearchProofSaid : Prop := searchProofRow.holds Try.pinned (OpenSpec.ofChange searchProofSpec)

/-- ITS FALSE NEIGHBOUR: 'it returns false'. Refute it at one input. -/
def searchProofWrong : ChangeSpec := { name := "searchProof", fn := fun _ => fun
  | [d1, d2] => { results := [.lit (.bool false)], args := [d1, d2] }
  | _ => none }
def SearchProofWrongFalsely : Prop := searchProofRow.holds Try.pinned (OpenSpec.ofChange searchProofWrong)

/-- 'reaperlaw20.SearchNone': WHATEVER THE INPUT: true; the input reads as it did. -/
def searchNoneSpec : ChangeSpec := { name := "searchNone", fn := fun _ => fun
  | [d1, d2, d3, d4, d5, d6] => { results := [.lit (.bool true)], args := [d1, d2, d3, d4, d5, d6] }
  | _ => none }
def searchNoneRow : OpenClaim := { program := "ytooibfffneecfaa", sum := "b13e8fbdcbe84c5841d94e3a1134c598a418da2e6f36911b930112a3a068a4f0", func := "reaper/reaperlaw20.SearchNone", spec := "searchNone", inPlace := ["slices.overlaps[int32]"], unfollowed := true, recurses := true, plainKeys := false, apart := false }
def SearchNoneSaid : Prop := searchNoneRow.holds Try.pinned (OpenSpec.ofChange searchNoneSpec)

/-- ITS FALSE NEIGHBOUR: 'it returns false'. Refute it at one input. -/
def searchNoneWrong : ChangeSpec := { name := "searchNone", fn := fun _ => fun
  | [d1, d2, d3, d4, d5, d6] => { results := [.lit (.bool false)], args := [d1, d2, d3, d4, d5, d6] }
  | _ => none }
def SearchNoneWrongFalsely : Prop := searchNoneRow.holds Try.pinned (OpenSpec.ofChange searchNoneWrong)

/-- 'reaperlaw20.SearchLog': WHATEVER THE INPUT: true; the input reads as it did. -/
def searchLogSpec : ChangeSpec := { name := "searchLog", fn := fun _ => fun
  | [d1, d2, d3, d4, d5] => { results := [.lit (.bool true)], args := [d1, d2, d3, d4, d5] }
  | _ => none }
def searchLogRow : OpenClaim := { program := "ytooibfffneecfaa", sum := "b13e8fbdcbe84c5841d94e3a1134c598a418da2e6f36911b930112a3a068a4f0", func := "reaper/reaperlaw20.SearchLog", spec := "searchLog", inPlace := ["slices.overlaps[int32]"], unfollowed := true, recurses := true, plainKeys := false, apart := false }
def SearchLogSaid : Prop := searchLogRow.holds Try.pinned (OpenSpec.ofChange searchLogSpec)

/-- ITS FALSE NEIGHBOUR: 'it returns false'. Refute it at one input. -/
def searchLogWrong : ChangeSpec := { name := "searchLog", fn := fun _ => fun
  | [d1, d2, d3, d4, d5] => { results := [.lit (.bool false)], args := [d1, d2, d3, d4, d5] }
  | _ => none }
def SearchLogWrongFalsely : Prop := searchLogRow.holds Try.pinned (OpenSpec.ofChange searchLogWrong)

/-- 'reaperlaw20.SearchShift': WHATEVER THE INPUT: true; the input reads as it did. -/
def searchShiftSpec : ChangeSpec := { name := "searchShift", fn := fun _ => fun
  | [d1, d2, d3, d4, d5, d6] => { results := [.lit (.bool true)], args := [d1, d2, d3, d4, d5, d6] }
  | _ => none }
def searchShiftRow : OpenClaim := { program := "ytooibfffneecfaa", sum := "b13e8fbdcbe84c5841d94e3a1134c598a418da2e6f36911b930112a3a068a4f0", func := "reaper/reaperlaw20.SearchShift", spec := "searchShift", inPlace := ["slices.overlaps[int32]"], unfollowed := true, recurses := true, plainKeys := false, apart := false }
def SearchShiftSaid : Prop := searchShiftRow.holds Try.pinned (OpenSpec.ofChange searchShiftSpec)

/-- ITS FALSE NEIGHBOUR: 'it returns false'. Refute it at one input. -/
def searchShiftWrong : ChangeSpec := { name := "searchShift", fn := fun _ => fun
  | [d1, d2, d3, d4, d5, d6] => { results := [.lit (.bool false)], args := [d1, d2, d3, d4, d5, d6] }
  | _ => none }
def SearchShiftWrongFalsely : Prop := searchShiftRow.holds Try.pinned (OpenSpec.ofChange searchShiftWrong)

/-- 'reaperlaw19.HistoryRight': WHATEVER THE INPUT: true; the input reads as it did. -/
def historyRightSpec : ChangeSpec := { name := "historyRight", fn := fun _ => fun
  | [d1, d2, d3, d4] => { results := [.lit (.bool true)], args := [d1, d2, d3, d4] }
  | _ => none }
def historyRightRow : OpenClaim := { program := "ytooibfffneecfaa", sum := "b13e8fbdcbe84c5841d94e3a1134c598a418da2e6f36911b930112a3a068a4f0", func := "reaper/reaperlaw19.HistoryRight", spec := "historyRight", inPlace := ["slices.overlaps[int32]"], unfollowed := true, recurses := true, plainKeys := false, apart := false }
def HistoryRightSaid : Prop := historyRightRow.holds Try.pinned (OpenSpec.ofChange historyRightSpec)

/-- ITS FALSE NEIGHBOUR: 'it returns false'. Refute it at one input. -/
def historyRightWrong : ChangeSpec := { name := "historyRight", fn := fun _ => fun
  | [d1, d2, d3, d4] => { results := [.lit (.bool false)], args := [d1, d2, d3, d4] }
  | _ => none }
def HistoryRightWrongFalsely : Prop := historyRightRow.holds Try.pinned (OpenSpec.ofChange historyRightWrong)

/-- 'reaperlaw19.HistoryWrong': WHATEVER THE INPUT: true; the input reads as it did. -/
def historyWrongSpec : ChangeSpec := { name := "historyWrong", fn := fun _ => fun
  | [d1, d2, d3, d4] => { results := [.lit (.bool true)], args := [d1, d2, d3, d4] }
  | _ => none }
def historyWrongRow : OpenClaim := { program := "ytooibfffneecfaa", sum := "b13e8fbdcbe84c5841d94e3a1134c598a418da2e6f36911b930112a3a068a4f0", func := "reaper/reaperlaw19.HistoryWrong", spec := "historyWrong", inPlace := ["slices.overlaps[int32]"], unfollowed := true, recurses := true, plainKeys := false, apart := false }
def HistoryWrongSaid : Prop := historyWrongRow.holds Try.pinned (OpenSpec.ofChange historyWrongSpec)

/-- ITS FALSE NEIGHBOUR: 'it returns false'. Refute it at one input. -/
def historyWrongWrong : ChangeSpec := { name := "historyWrong", fn := fun _ => fun
  | [d1, d2, d3, d4] => { results := [.lit (.bool false)], args := [d1, d2, d3, d4] }
  | _ => none }
def HistoryWrongWrongFalsely : Prop := historyWrongRow.holds Try.pinned (OpenSpec.ofChange historyWrongWrong)

/-- 'reaperlaw19.HistoryBefore': WHATEVER THE INPUT: true; the input reads as it did. -/
def historyBeforeSpec : ChangeSpec := { name := "historyBefore", fn := fun _ => fun
  | [d1, d2, d3] => { results := [.lit (.bool true)], args := [d1, d2, d3] }
  | _ => none }
def historyBeforeRow : OpenClaim := { program := "ytooibfffneecfaa", sum := "b13e8fbdcbe84c5841d94e3a1134c598a418da2e6f36911b930112a3a068a4f0", func := "reaper/reaperlaw19.HistoryBefore", spec := "historyBefore", inPlace := ["slices.overlaps[int32]"], unfollowed := true, recurses := true, plainKeys := false, apart := false }
def HistoryBeforeSaid : Prop := historyBeforeRow.holds Try.pinned (OpenSpec.ofChange historyBeforeSpec)

/-- ITS FALSE NEIGHBOUR: 'it returns false'. Refute it at one input. -/
def historyBeforeWrong : ChangeSpec := { name := "historyBefore", fn := fun _ => fun
  | [d1, d2, d3] => { results := [.lit (.bool false)], args := [d1, d2, d3] }
  | _ => none }
def HistoryBeforeWrongFalsely : Prop := historyBeforeRow.holds Try.pinned (OpenSpec.ofChange historyBeforeWrong)

/-- 'reaperlaw19.HistoryFront': WHATEVER THE INPUT: true; the input reads as it did. -/
def historyFrontSpec : ChangeSpec := { name := "historyFront", fn := fun _ => fun
  | [d1, d2, d3, d4] => { results := [.lit (.bool true)], args := [d1, d2, d3, d4] }
  | _ => none }
def historyFrontRow : OpenClaim := { program := "ytooibfffneecfaa", sum := "b13e8fbdcbe84c5841d94e3a1134c598a418da2e6f36911b930112a3a068a4f0", func := "reaper/reaperlaw19.HistoryFront", spec := "historyFront", inPlace := ["slices.overlaps[int32]"], unfollowed := true, recurses := true, plainKeys := false, apart := false }
def HistoryFrontSaid : Prop := historyFrontRow.holds Try.pinned (OpenSpec.ofChange historyFrontSpec)

/-- ITS FALSE NEIGHBOUR: 'it returns false'. Refute it at one input. -/
def historyFrontWrong : ChangeSpec := { name := "historyFront", fn := fun _ => fun
  | [d1, d2, d3, d4] => { results := [.lit (.bool false)], args := [d1, d2, d3, d4] }
  | _ => none }
def HistoryFrontWrongFalsely : Prop := historyFrontRow.holds Try.pinned (OpenSpec.ofChange historyFrontWrong)

/- THE SECOND FORM. 'bulk': how many values and letters a reading holds, each counted each time it is reached (what is shared counts as often as it is met; a slice's spare places count too). A statement '..UptoSaid' is the law's where the arguments, and the package variables that the reading takes, are together of bulk at most 1048576: NARROWER than '..Said'. Prove '..Said' where nothing that the law and all that it calls make is longer than what came in: it says more and counts as full. Else prove '..UptoSaid'. A law counts once. -/
mutual
def uptoBulk {H : Type} : DataW H → Nat
  | .lit (.string bytes) => bytes.length + 1
  | .lit _ => 1
  | .nil => 1
  | .ptr d => uptoBulk d + 1
  | .slice elems spare => uptoBulkAll elems + uptoBulkAll spare + 1
  | .agg parts => uptoBulkAll parts + 1
  | .iface _ d => uptoBulk d + 1
  | .map entries => uptoBulkEntries entries + 1
  | .held _ => 1
def uptoBulkAll {H : Type} : List (DataW H) → Nat
  | [] => 0
  | d :: r => uptoBulk d + uptoBulkAll r
def uptoBulkEntries {H : Type} : List (Lit × DataW H) → Nat
  | [] => 0
  | x :: r => uptoBulkEntry x + uptoBulkEntries r
def uptoBulkEntry {H : Type} : Lit × DataW H → Nat
  | (.string bytes, d) => bytes.length + uptoBulk d + 1
  | (_, d) => uptoBulk d + 1
 end
def uptoSmall : (H : Type) → List (DataW H) → Bool := fun _ ds => decide (uptoBulkAll ds ≤ 1048576)
def OpenSpec.upto (s : _root_.Go.ChangeSpec) : _root_.Go.OpenSpec := { _root_.Go.OpenSpec.ofChange s with cond := some uptoSmall }

/-- 'reaperlaw20.SearchFits', WHERE WHAT IT READS IS OF BULK AT MOST 1048576: true; the input reads as it did. -/
def searchFitsUptoRow : OpenClaim := { program := "ytooibfffneecfaa", sum := "b13e8fbdcbe84c5841d94e3a1134c598a418da2e6f36911b930112a3a068a4f0", func := "reaper/reaperlaw20.SearchFits", spec := "searchFits", inPlace := ["slices.overlaps[int32]"], unfollowed := true, recurses := true, plainKeys := false, apart := false, narrowed := true }
def SearchFitsUptoSaid : Prop := searchFitsUptoRow.holds Try.pinned (OpenSpec.upto searchFitsSpec)

/-- 'reaperlaw20.SearchFinds', WHERE WHAT IT READS IS OF BULK AT MOST 1048576: true; the input reads as it did. -/
def searchFindsUptoRow : OpenClaim := { program := "ytooibfffneecfaa", sum := "b13e8fbdcbe84c5841d94e3a1134c598a418da2e6f36911b930112a3a068a4f0", func := "reaper/reaperlaw20.SearchFinds", spec := "searchFinds", inPlace := ["slices.overlaps[int32]"], unfollowed := true, recurses := true, plainKeys := false, apart := false, narrowed := true }
def SearchFindsUptoSaid : Prop := searchFindsUptoRow.holds Try.pinned (OpenSpec.upto searchFindsSpec)

/-- 'reaperlaw20.SearchProof', WHERE WHAT IT READS IS OF BULK AT MOST 1048576: true; the input reads as it did. -/
def searchProofUptoRow : OpenClaim := { program := "ytooibfffneecfaa", sum := "b13e8fbdcbe84c5841d94e3a1134c598a418da2e6f36911b930112a3a068a4f0", func := "reaper/reaperlaw20.SearchProof", spec := "searchProof", inPlace := ["slices.overlaps[int32]"], unfollowed := true, recurses := true, plainKeys := false, apart := false, narrowed := true }
def SearchProofUptoSaid : Prop := searchProofUptoRow.holds Try.pinned (OpenSpec.upto searchProofSpec)

/-- 'reaperlaw20.SearchNone', WHERE WHAT IT READS IS OF BULK AT MOST 1048576: true; the input reads as it did. -/
def searchNoneUptoRow : OpenClaim := { program := "ytooibfffneecfaa", sum := "b13e8fbdcbe84c5841d94e3a1134c598a418da2e6f36911b930112a3a068a4f0", func := "reaper/reaperlaw20.SearchNone", spec := "searchNone", inPlace := ["slices.overlaps[int32]"], unfollowed := true, recurses := true, plainKeys := false, apart := false, narrowed := true }
def SearchNoneUptoSaid : Prop := searchNoneUptoRow.holds Try.pinned (OpenSpec.upto searchNoneSpec)

/-- 'reaperlaw20.SearchLog', WHERE WHAT IT READS IS OF BULK AT MOST 1048576: true; the input reads as it did. -/
def searchLogUptoRow : OpenClaim := { program := "ytooibfffneecfaa", sum := "b13e8fbdcbe84c5841d94e3a1134c598a418da2e6f36911b930112a3a068a4f0", func := "reaper/reaperlaw20.SearchLog", spec := "searchLog", inPlace := ["slices.overlaps[int32]"], unfollowed := true, recurses := true, plainKeys := false, apart := false, narrowed := true }
def SearchLogUptoSaid : Prop := searchLogUptoRow.holds Try.pinned (OpenSpec.upto searchLogSpec)

/-- 'reaperlaw20.SearchShift', WHERE WHAT IT READS IS OF BULK AT MOST 1048576: true; the input reads as it did. -/
def searchShiftUptoRow : OpenClaim := { program := "ytooibfffneecfaa", sum := "b13e8fbdcbe84c5841d94e3a1134c598a418da2e6f36911b930112a3a068a4f0", func := "reaper/reaperlaw20.SearchShift", spec := "searchShift", inPlace := ["slices.overlaps[int32]"], unfollowed := true, recurses := true, plainKeys := false, apart := false, narrowed := true }
def SearchShiftUptoSaid : Prop := searchShiftUptoRow.holds Try.pinned (OpenSpec.upto searchShiftSpec)

/-- 'reaperlaw19.HistoryRight', WHERE WHAT IT READS IS OF BULK AT MOST 1048576: true; the input reads as it did. -/
def historyRightUptoRow : OpenClaim := { program := "ytooibfffneecfaa", sum := "b13e8fbdcbe84c5841d94e3a1134c598a418da2e6f36911b930112a3a068a4f0", func := "reaper/reaperlaw19.HistoryRight", spec := "historyRight", inPlace := ["slices.overlaps[int32]"], unfollowed := true, recurses := true, plainKeys := false, apart := false, narrowed := true }
def HistoryRightUptoSaid : Prop := historyRightUptoRow.holds Try.pinned (OpenSpec.upto historyRightSpec)

/-- 'reaperlaw19.HistoryWrong', WHERE WHAT IT READS IS OF BULK AT MOST 1048576: true; the input reads as it did. -/
def historyWrongUptoRow : OpenClaim := { program := "ytooibfffneecfaa", sum := "b13e8fbdcbe84c5841d94e3a1134c598a418da2e6f36911b930112a3a068a4f0", func := "reaper/reaperlaw19.HistoryWrong", spec := "historyWrong", inPlace := ["slices.overlaps[int32]"], unfollowed := true, recurses := true, plainKeys := false, apart := false, narrowed := true }
def HistoryWrongUptoSaid : Prop := historyWrongUptoRow.holds Try.pinned (OpenSpec.upto historyWrongSpec)

/-- 'reaperlaw19.HistoryBefore', WHERE WHAT IT READS IS OF BULK AT MOST 1048576: true; the input reads as it did. -/
def historyBeforeUptoRow : OpenClaim := { program := "ytooibfffneecfaa", sum := "b13e8fbdcbe84c5841d94e3a1134c598a418da2e6f36911b930112a3a068a4f0", func := "reaper/reaperlaw19.HistoryBefore", spec := "historyBefore", inPlace := ["slices.overlaps[int32]"], unfollowed := true, recurses := true, plainKeys := false, apart := false, narrowed := true }
def HistoryBeforeUptoSaid : Prop := historyBeforeUptoRow.holds Try.pinned (OpenSpec.upto historyBeforeSpec)

/-- 'reaperlaw19.HistoryFront', WHERE WHAT IT READS IS OF BULK AT MOST 1048576: true; the input reads as it did. -/
def historyFrontUptoRow : OpenClaim := { program := "ytooibfffneecfaa", sum := "b13e8fbdcbe84c5841d94e3a1134c598a418da2e6f36911b930112a3a068a4f0", func := "reaper/reaperlaw19.HistoryFront", spec := "historyFront", inPlace := ["slices.overlaps[int32]"], unfollowed := true, recurses := true, plainKeys := false, apart := false, narrowed := true }
def HistoryFrontUptoSaid : Prop := historyFrontUptoRow.holds Try.pinned (OpenSpec.upto historyFrontSpec)

end Rows
end Go.Proofs.Ytooibfffneecfaa
