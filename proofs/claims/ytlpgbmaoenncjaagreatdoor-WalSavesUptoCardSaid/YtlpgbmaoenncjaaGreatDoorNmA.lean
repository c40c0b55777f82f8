/-
  The walks of within and its like, of quorum.Right and the reference's Right of voters: nothing is changed; the slices within reach.
-/
import Derived.Test.YtlpgbmaoenncjaaGreatDoorGen
import Derived.Test.YtlpgbmaoenncjaaGreatDoorRows
import Derived.Deep.LoopGhost
namespace Go.Proofs.YtlpgbmaoenncjaaGreatDoor
open Go.RowKit
set_option linter.unusedVariables false
end Go.Proofs.YtlpgbmaoenncjaaGreatDoor
