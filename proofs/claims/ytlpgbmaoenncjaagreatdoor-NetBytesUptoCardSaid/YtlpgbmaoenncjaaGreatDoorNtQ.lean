/-
  Messages as packets, in plain Lean: what is sealed is opened; a packet of which one byte is changed, or that is cut off, is refused; without a condition.
-/
import Derived.Test.YtlpgbmaoenncjaaGreatDoorPvs
import Derived.Test.YtlpgbmaoenncjaaGreatDoorFram
namespace Go.Proofs.YtlpgbmaoenncjaaGreatDoor
open Go.RowKit
set_option linter.unusedVariables false
def sealM (m:Ms):ByteArray × Int:=if (putM m).2≠0 then (⟨#[]⟩,(putM m).2) else if 65536<(putM m).1.size then (⟨#[]⟩,2) else (frameOf (putM m).1,0)
def wholeB (l:List UInt8):Prop:=(bodies l).length=1∧taken (bodies l)=l.length
instance (l:List UInt8):Decidable (wholeB l):=by unfold wholeB; exact inferInstance
end Go.Proofs.YtlpgbmaoenncjaaGreatDoor
