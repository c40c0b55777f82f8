/-
  The walks of the references' Ints and LikeRecords at rows that are one: nothing is changed.
-/
import Derived.Test.YtlpgbmaoenncjaaGreatDoorNmB
import Derived.Laws.StructEq
import Derived.Deep.QuietTactic
import Derived.BigQuiet
namespace Go.Proofs.YtlpgbmaoenncjaaGreatDoor
open Go.RowKit
set_option linter.unusedVariables false
theorem neqRec (x y:Int) (z:ByteArray) (w:World):(binOp .neq 67 (.agg #[.int .i64 x,.int .i64 y,.string z]) (.agg #[.int .i64 x,.int .i64 y,.string z])).run Tryz.prog w = .ok (.bool false) w:=by
 have u3:=Tryz.underlying9
 have u4:=Tryz.underlying3
 have hS:Tryz.prog.underlying 67 = some (.struct (Tryz.prog.fieldsOf 67)):=by kernel_rfl
 have hp:Tryz.prog.stoodInHeld 67 = false:=by kernel_rfl
 rw [run_neq_struct,show (10000:Nat)=9999+1 from rfl,run_equalIn_agg w 9999 67 _ _ hS hp]
 simp only [Program.fieldsOf,Tryz.underlying67]
 go_simp
end Go.Proofs.YtlpgbmaoenncjaaGreatDoor
