/-
  The walk of code.Get: any text is read as just that value, or refused.
-/
import Derived.Test.YtlpgbmaoenncjaaGreatDoorCvValue
import Derived.Below
namespace Go.Proofs.YtlpgbmaoenncjaaGreatDoor
open Go.RowKit
set_option linter.unusedVariables false
structure Got where
 v:V
 bad:Int
 at_:Nat
def getL (s:ByteArray):Got :=
 if 131072<s.size then ⟨zeroV,2,0⟩
 else if (rdValue s 30 0 0).ok=true then (if (rdValue s 30 0 0).at_<s.size then ⟨zeroV,11,(rdValue s 30 0 0).at_⟩ else ⟨(rdValue s 30 0 0).v,0,0⟩)
 else ⟨zeroV,(rdValue s 30 0 0).bad,(rdValue s 30 0 0).at_⟩
end Go.Proofs.YtlpgbmaoenncjaaGreatDoor
