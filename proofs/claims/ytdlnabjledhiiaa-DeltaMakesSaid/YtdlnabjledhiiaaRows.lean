/-
  No cell of these rows narrows 'for every input' (looked for: loops, veiled, ifaces, maps, wideKeys, modest, calm, conditions, laid).
  DERIVED. THE GIVEN ROWS OF THIS SEAT. 6 by the template 'for every input the law returns true; each argument reads behind the call as it read before'; 0 by the template 'total and deterministic' (their statements: YtdlnabjledhiiaaTotals.lean).
  GIVEN WITH THE SEED: the statements are not yours to turn. If you find one false, say at which input.
  Laid BY PROGRAM, IN A SANDBOX (cutbox-rows.mjs): the forced cells as the released guide's own fill.sh prints them over the translation cc434c79a4ebe995… (all of the seat's roots in one cut). By AI agents, Wed Nov 11 2026. No macro, syntax, notation, axiom, sorry.
-/
import Derived.Test.YtdlnabjledhiiaaChecked
import GoSem.Claim
import GoSem.ClaimJoined
import GoSem.ClaimMapViews
import Derived.JoinedTies
import Derived.KernelRfl
namespace Go.Proofs.Ytdlnabjledhiiaa
/- THE CELL 'sum', in the pinned program and in every row, IS THE sha256 OF THE DUMP (.gsa) THAT YtdlnabjledhiiaaProg.lean LOADS. Nothing in Lean hashes anything: it is a label: what it is worth is what the hold of that sum in a sandbox is worth. -/
noncomputable def Try.pinned : Pinned := { name := "ytdlnabjledhiiaa", sum := "cc434c79a4ebe9952df4636175aaa464dc73657d64ecdfb96113c8dc4978bb5f", checked := Try.checked }
namespace Rows
def none {H : Type} : Left H := { results := [], args := [] }

/-- 'hornbooklaw21.NetWays': WHATEVER THE INPUT: true; the input reads as it did. -/
def netWaysSpec : ChangeSpec := { name := "netWays", fn := fun _ => fun
  | [d1, d2, d3] => { results := [.lit (.bool true)], args := [d1, d2, d3] }
  | _ => none }
def netWaysRow : OpenClaim := { program := "ytdlnabjledhiiaa", sum := "cc434c79a4ebe9952df4636175aaa464dc73657d64ecdfb96113c8dc4978bb5f", func := "hornbook/hornbooklaw21.NetWays", spec := "netWays", apart := false }
def NetWaysSaid : Prop := netWaysRow.holds Try.pinned (OpenSpec.ofChange netWaysSpec)

/-- ITS FALSE NEIGHBOUR: 'it returns false'. Refute it at one input. -/
def netWaysWrong : ChangeSpec := { name := "netWays", fn := fun _ => fun
  | [d1, d2, d3] => { results := [.lit (.bool false)], args := [d1, d2, d3] }
  | _ => none }
def NetWaysWrongFalsely : Prop := netWaysRow.holds Try.pinned (OpenSpec.ofChange netWaysWrong)

/-- 'hornbooklaw21.NetMoves': WHATEVER THE INPUT: true; the input reads as it did. -/
def netMovesSpec : ChangeSpec := { name := "netMoves", fn := fun _ => fun
  | [d] => { results := [.lit (.bool true)], args := [d] }
  | _ => none }
def netMovesRow : OpenClaim := { program := "ytdlnabjledhiiaa", sum := "cc434c79a4ebe9952df4636175aaa464dc73657d64ecdfb96113c8dc4978bb5f", func := "hornbook/hornbooklaw21.NetMoves", spec := "netMoves", apart := false }
def NetMovesSaid : Prop := netMovesRow.holds Try.pinned (OpenSpec.ofChange netMovesSpec)

/-- ITS FALSE NEIGHBOUR: 'it returns false'. Refute it at one input. -/
def netMovesWrong : ChangeSpec := { name := "netMoves", fn := fun _ => fun
  | [d] => { results := [.lit (.bool false)], args := [d] }
  | _ => none }
def NetMovesWrongFalsely : Prop := netMovesRow.holds Try.pinned (OpenSpec.ofChange netMovesWrong)

/-- 'hornbooklaw07.DeltaApplies': WHATEVER THE INPUT: true; the input reads as it did. -/
def deltaAppliesSpec : ChangeSpec := { name := "deltaApplies", fn := fun _ => fun
  | [d1, d2, d3] => { results := [.lit (.bool true)], args := [d1, d2, d3] }
  | _ => none }
def deltaAppliesRow : OpenClaim := { program := "ytdlnabjledhiiaa", sum := "cc434c79a4ebe9952df4636175aaa464dc73657d64ecdfb96113c8dc4978bb5f", func := "hornbook/hornbooklaw07.DeltaApplies", spec := "deltaApplies", inPlace := ["internal/abi.NoEscape"], unfollowed := true, recurses := true, apart := false }
def DeltaAppliesSaid : Prop := deltaAppliesRow.holds Try.pinned (OpenSpec.ofChange deltaAppliesSpec)

/-- ITS FALSE NEIGHBOUR: 'it returns false'. Refute it at one input. -/
def deltaAppliesWrong : ChangeSpec := { name := "deltaApplies", fn := fun _ => fun
  | [d1, d2, d3] => { results := [.lit (.bool false)], args := [d1, d2, d3] }
  | _ => none }
def DeltaAppliesWrongFalsely : Prop := deltaAppliesRow.holds Try.pinned (OpenSpec.ofChange deltaAppliesWrong)

/-- 'hornbooklaw07.DeltaJoins': WHATEVER THE INPUT: true; the input reads as it did. -/
def deltaJoinsSpec : ChangeSpec := { name := "deltaJoins", fn := fun _ => fun
  | [d1, d2, d3] => { results := [.lit (.bool true)], args := [d1, d2, d3] }
  | _ => none }
def deltaJoinsRow : OpenClaim := { program := "ytdlnabjledhiiaa", sum := "cc434c79a4ebe9952df4636175aaa464dc73657d64ecdfb96113c8dc4978bb5f", func := "hornbook/hornbooklaw07.DeltaJoins", spec := "deltaJoins", inPlace := ["internal/abi.NoEscape", "internal/bytealg.MakeNoZero"], unfollowed := true, recurses := true, apart := false }
def DeltaJoinsSaid : Prop := deltaJoinsRow.holds Try.pinned (OpenSpec.ofChange deltaJoinsSpec)

/-- ITS FALSE NEIGHBOUR: 'it returns false'. Refute it at one input. -/
def deltaJoinsWrong : ChangeSpec := { name := "deltaJoins", fn := fun _ => fun
  | [d1, d2, d3] => { results := [.lit (.bool false)], args := [d1, d2, d3] }
  | _ => none }
def DeltaJoinsWrongFalsely : Prop := deltaJoinsRow.holds Try.pinned (OpenSpec.ofChange deltaJoinsWrong)

/-- 'hornbooklaw07.DeltaFinds': WHATEVER THE INPUT: true; the input reads as it did. -/
def deltaFindsSpec : ChangeSpec := { name := "deltaFinds", fn := fun _ => fun
  | [d1, d2, d3] => { results := [.lit (.bool true)], args := [d1, d2, d3] }
  | _ => none }
def deltaFindsRow : OpenClaim := { program := "ytdlnabjledhiiaa", sum := "cc434c79a4ebe9952df4636175aaa464dc73657d64ecdfb96113c8dc4978bb5f", func := "hornbook/hornbooklaw07.DeltaFinds", spec := "deltaFinds", inPlace := ["internal/bytealg.IndexByteString", "internal/bytealg.IndexString"], unfollowed := true, recurses := true, named := ["internal/bytealg.MaxLen"], apart := false }
def DeltaFindsSaid : Prop := deltaFindsRow.holds Try.pinned (OpenSpec.ofChange deltaFindsSpec)

/-- ITS FALSE NEIGHBOUR: 'it returns false'. Refute it at one input. -/
def deltaFindsWrong : ChangeSpec := { name := "deltaFinds", fn := fun _ => fun
  | [d1, d2, d3] => { results := [.lit (.bool false)], args := [d1, d2, d3] }
  | _ => none }
def DeltaFindsWrongFalsely : Prop := deltaFindsRow.holds Try.pinned (OpenSpec.ofChange deltaFindsWrong)

/-- 'hornbooklaw07.DeltaMakes': WHATEVER THE INPUT: true; the input reads as it did. -/
def deltaMakesSpec : ChangeSpec := { name := "deltaMakes", fn := fun _ => fun
  | [d1, d2] => { results := [.lit (.bool true)], args := [d1, d2] }
  | _ => none }
def deltaMakesRow : OpenClaim := { program := "ytdlnabjledhiiaa", sum := "cc434c79a4ebe9952df4636175aaa464dc73657d64ecdfb96113c8dc4978bb5f", func := "hornbook/hornbooklaw07.DeltaMakes", spec := "deltaMakes", inPlace := ["internal/bytealg.IndexByteString", "internal/bytealg.IndexString", "internal/abi.NoEscape"], unfollowed := true, recurses := true, named := ["internal/bytealg.MaxLen"], apart := false }
def DeltaMakesSaid : Prop := deltaMakesRow.holds Try.pinned (OpenSpec.ofChange deltaMakesSpec)

/-- ITS FALSE NEIGHBOUR: 'it returns false'. Refute it at one input. -/
def deltaMakesWrong : ChangeSpec := { name := "deltaMakes", fn := fun _ => fun
  | [d1, d2] => { results := [.lit (.bool false)], args := [d1, d2] }
  | _ => none }
def DeltaMakesWrongFalsely : Prop := deltaMakesRow.holds Try.pinned (OpenSpec.ofChange deltaMakesWrong)

/- THE SECOND FORM. 'bulk': how many values and letters a reading holds, each counted each time it is reached (what is shared counts as often as it is met; a slice's spare places count too). A statement '..UptoSaid' is the law's where the arguments, and the package variables that the reading takes, are together of bulk at most 1048576: NARROWER than '..Said'. Prove '..Said' where nothing that the law and all that it calls make is longer than what came in: it says more and counts as full. Else prove '..UptoSaid'. A law counts once. -/
mutual
def uptoBulk {H : Type} : DataW H → Nat
  | .lit (.string bytes) => bytes.length + 1
  | .lit _ => 1
  | .nil => 1
  | .ptr d => uptoBulk d + 1
  | .slice elems spare => uptoBulkAll elems + uptoBulkAll spare + 1
  | .agg parts => uptoBulkAll parts + 1
  | .iface _ d => uptoBulk d + 1
  | .map entries => uptoBulkEntries entries + 1
  | .held _ => 1
def uptoBulkAll {H : Type} : List (DataW H) → Nat
  | [] => 0
  | d :: r => uptoBulk d + uptoBulkAll r
def uptoBulkEntries {H : Type} : List (Lit × DataW H) → Nat
  | [] => 0
  | x :: r => uptoBulkEntry x + uptoBulkEntries r
def uptoBulkEntry {H : Type} : Lit × DataW H → Nat
  | (.string bytes, d) => bytes.length + uptoBulk d + 1
  | (_, d) => uptoBulk d + 1
 end
def uptoSmall : (H : Type) → List (DataW H) → Bool := fun _ ds => decide (uptoBulkAll ds ≤ 1048576)
def OpenSpec.upto (s : _root_.Go.ChangeSpec) : _root_.Go.OpenSpec := { _root_.Go.OpenSpec.ofChange s with cond := some uptoSmall }

/-- 'hornbooklaw21.NetWays', WHERE WHAT IT READS IS OF BULK AT MOST 1048576: true; the input reads as it did. -/
def netWaysUptoRow : OpenClaim := { program := "ytdlnabjledhiiaa", sum := "cc434c79a4ebe9952df4636175aaa464dc73657d64ecdfb96113c8dc4978bb5f", func := "hornbook/hornbooklaw21.NetWays", spec := "netWays", apart := false, narrowed := true }
def NetWaysUptoSaid : Prop := netWaysUptoRow.holds Try.pinned (OpenSpec.upto netWaysSpec)

/-- 'hornbooklaw21.NetMoves', WHERE WHAT IT READS IS OF BULK AT MOST 1048576: true; the input reads as it did. -/
def netMovesUptoRow : OpenClaim := { program := "ytdlnabjledhiiaa", sum := "cc434c79a4ebe9952df4636175aaa464dc73657d64ecdfb96113c8dc4978bb5f", func := "hornbook/hornbooklaw21.NetMoves", spec := "netMoves", apart := false, narrowed := true }
def NetMovesUptoSaid : Prop := netMovesUptoRow.holds Try.pinned (OpenSpec.upto netMovesSpec)

/-- 'hornbooklaw07.DeltaApplies', WHERE WHAT IT READS IS OF BULK AT MOST 1048576: true; the input reads as it did. -/
def deltaAppliesUptoRow : OpenClaim := { program := "ytdlnabjledhiiaa", sum := "cc434c79a4ebe9952df4636175aaa464dc73657d64ecdfb96113c8dc4978bb5f", func := "hornbook/hornbooklaw07.DeltaApplies", spec := "deltaApplies", inPlace := ["internal/abi.NoEscape"], unfollowed := true, recurses := true, apart := false, narrowed := true }
def DeltaAppliesUptoSaid : Prop := deltaAppliesUptoRow.holds Try.pinned (OpenSpec.upto deltaAppliesSpec)

/-- 'hornbooklaw07.DeltaJoins', WHERE WHAT IT READS IS OF BULK AT MOST 1048576: true; the input reads as it did. -/
def deltaJoinsUptoRow : OpenClaim := { program := "ytdlnabjledhiiaa", sum := "cc434c79a4ebe9952df4636175aaa464dc73657d64ecdfb96113c8dc4978bb5f", func := "hornbook/hornbooklaw07.DeltaJoins", spec := "deltaJoins", inPlace := ["internal/abi.NoEscape", "internal/bytealg.MakeNoZero"], unfollowed := true, recurses := true, apart := false, narrowed := true }
def DeltaJoinsUptoSaid : Prop := deltaJoinsUptoRow.holds Try.pinned (OpenSpec.upto deltaJoinsSpec)

/-- 'hornbooklaw07.DeltaFinds', WHERE WHAT IT READS IS OF BULK AT MOST 1048576: true; the input reads as it did. -/
def deltaFindsUptoRow : OpenClaim := { program := "ytdlnabjledhiiaa", sum := "cc434c79a4ebe9952df4636175aaa464dc73657d64ecdfb96113c8dc4978bb5f", func := "hornbook/hornbooklaw07.DeltaFinds", spec := "deltaFinds", inPlace := ["internal/bytealg.IndexByteString", "internal/bytealg.IndexString"], unfollowed := true, recurses := true, named := ["internal/bytealg.MaxLen"], apart := false, narrowed := true }
def DeltaFindsUptoSaid : Prop := deltaFindsUptoRow.holds Try.pinned (OpenSpec.upto deltaFindsSpec)

/-- 'hornbooklaw07.DeltaMakes', WHERE WHAT IT READS IS OF BULK AT MOST 1048576: true; the input reads as it did. -/
def deltaMakesUptoRow : OpenClaim := { program := "ytdlnabjledhiiaa", sum := "cc434c79a4ebe9952df4636175aaa464dc73657d64ecdfb96113c8dc4978bb5f", func := "hornbook/hornbooklaw07.DeltaMakes", spec := "deltaMakes", inPlace := ["internal/bytealg.IndexByteString", "internal/bytealg.IndexString", "internal/abi.NoEscape"], unfollowed := true, recurses := true, named := ["internal/bytealg.MaxLen"], apart := false, narrowed := true }
def DeltaMakesUptoSaid : Prop := deltaMakesUptoRow.holds Try.pinned (OpenSpec.upto deltaMakesSpec)

end Rows
end Go.Proofs.Ytdlnabjledhiiaa
